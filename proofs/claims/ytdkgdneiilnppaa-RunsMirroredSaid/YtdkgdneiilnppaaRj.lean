/- What a row's runs are; Small of one bitmap. Conditions: none. -/
import Derived.Test.YtdkgdneiilnppaaRi
set_option linter.all false
namespace Go.Ab
structure HasL9r (P : Prog) : Prop where
  bm : HasBm P
  rz : HasRz P
  ru : HasRu P
  rf : HasRf9 P
  kit : HasKit2 P
/-- The start of the block that ends at t. -/
theorem blkSt (f : Nat → Bool) : ∀ t, f t = true → ∃ s, s ≤ t ∧ (s = 0 ∨ f (s - 1) = false) ∧ ∀ z, s ≤ z → z ≤ t → f z = true
  | 0, h => ⟨0, Nat.le_refl _, Or.inl rfl, fun z _ hz => by rw [show z = 0 by omega]; exact h⟩
  | t + 1, h => by
    by_cases k : f t = true
    · obtain ⟨s, h1, h2, h3⟩ := blkSt f t k
      refine ⟨s, by omega, h2, fun z a b => ?_⟩
      by_cases e : z = t + 1
      · rw [e]; exact h
      · exact h3 z a (by omega)
    · exact ⟨t + 1, Nat.le_refl _, Or.inr (by simpa using k), fun z a b => by rw [show z = t + 1 by omega]; exact h⟩
theorem rl_ind {f : Nat → Bool} {M : Nat → List (Int × Int) → Prop} (h0 : M 0 []) (h1 : ∀ x, f x = false → M x (rl f x) → M (x + 1) (rl f x))
    (h2 : ∀ s x, s < x → (s = 0 ∨ f (s - 1) = false) → (∀ z, s ≤ z → z < x → f z = true) → M s (rl f s) → M x (rl f s ++ [((s : Int), (x : Int))])) : ∀ x, M x (rl f x) := fun x => by
  induction x using Nat.strongRecOn with
  | ind x ih =>
    cases x with
    | zero => exact h0
    | succ t =>
      by_cases k : f t = true
      · obtain ⟨s, a1, a2, a3⟩ := blkSt f t k
        rw [rl_run a2 (t + 1) (by omega) fun z a b => a3 z a (by omega)]
        exact h2 s (t + 1) (by omega) a2 (fun z a b => a3 z a (by omega)) (ih s (by omega))
      · have k : f t = false := by simpa using k
        have e : rl f (t + 1) = rl f t := rl_none (t + 1) (by omega) fun z a b => by rw [show z = t by omega]; exact k
        rw [e]
        exact h1 t k (ih t (by omega))
structure RunOk (f : Nat → Bool) (x a b : Nat) : Prop where
  lt : a < b
  le : b ≤ x
  on : ∀ z, a ≤ z → z < b → f z = true
  st : a = 0 ∨ f (a - 1) = false
  en : b < x → f b = false
theorem rl_ok (f : Nat → Bool) : ∀ x, ∀ r ∈ rl f x, ∃ a b : Nat, r = ((a : Int), (b : Int)) ∧ RunOk f x a b :=
  rl_ind (M := fun x l => ∀ r ∈ l, ∃ a b : Nat, r = ((a : Int), (b : Int)) ∧ RunOk f x a b) (fun r h => by cases h)
    (fun x k ih r hr => by
      obtain ⟨a, b, e, h⟩ := ih r hr
      refine ⟨a, b, e, h.lt, by have := h.le; omega, h.on, h.st, fun hb => ?_⟩
      by_cases e2 : b = x
      · rw [e2]; exact k
      · exact h.en (by omega))
    (fun s x hs k k2 ih r hr => by
      rcases List.mem_append.1 hr with hr | hr
      · obtain ⟨a, b, e, h⟩ := ih r hr
        refine ⟨a, b, e, h.lt, by have := h.le; omega, h.on, h.st, fun hb => ?_⟩
        rcases Nat.lt_or_ge b s with c | c
        · exact h.en c
        · have hle := h.le
          have hlt := h.lt
          have e2 := h.on (b - 1) (by omega) (by omega)
          rcases k with k | k
          · omega
          · rw [show s - 1 = b - 1 by omega, e2] at k; cases k
      · rw [List.mem_singleton] at hr
        exact ⟨s, x, hr, hs, Nat.le_refl _, k2, k, fun h => by omega⟩)
theorem rl_row {f : Nat → Bool} {w x : Nat} (hx : x ≤ w) : okRow w (-1) (rl f x) = true := by
  have := rl_ind (f := f) (M := fun x l => x ≤ w → okRow w (-1) l = true ∧ lastTo (-1) l ≤ x ∧ ((x = 0 ∨ f (x - 1) = false) → lastTo (-1) l < x)) (fun _ => ⟨rfl, by simp [lastTo], fun _ => by simp [lastTo]⟩)
    (fun x k ih h => by obtain ⟨a, b, c⟩ := ih (by omega); exact ⟨a, by omega, fun _ => by omega⟩)
    (fun s x hs k k2 ih h => by
      obtain ⟨a, b, c⟩ := ih (by omega)
      have c := c k
      rw [okRow_snoc, a, lastTo_snoc]
      refine ⟨by rw [Bool.true_and]; exact decide_eq_true (by dsimp only; omega), Int.le_refl _, fun q => ?_⟩
      rcases q with q | q
      · omega
      · rw [k2 (x - 1) (by omega) (by omega)] at q; cases q) x hx
  exact this.1
theorem rl_in {f : Nat → Bool} : ∀ x i, inR (rl f x) i = (decide (i < x) && f i) :=
  rl_ind (M := fun x l => ∀ i, inR l i = (decide (i < x) && f i)) (fun i => by simp [inR])
    (fun x k ih i => by
      rw [ih]
      by_cases e : i = x
      · subst e; simp [k]
      · rw [show decide (i < x + 1) = decide (i < x) from decide_eq_decide.2 (by omega)])
    (fun s x hs k k2 ih i => by
      rw [inR_snoc, ih]
      by_cases a : i < s
      · rw [decide_eq_true a, decide_eq_true (show i < x by omega), decide_eq_false (by dsimp only; omega), Bool.or_false]
      · by_cases b : i < x
        · rw [decide_eq_true b, k2 i (by omega) b, decide_eq_true (show ((s : Int), (x : Int)).1 ≤ (i : Int) ∧ (i : Int) < ((s : Int), (x : Int)).2 by dsimp only; omega)]; simp
        · rw [decide_eq_false a, decide_eq_false b, decide_eq_false (by dsimp only; omega)]; rfl)
/-- How long runs are, all together. -/
def rsN (l : List (Int × Int)) : Nat := (l.map fun r => (r.2 - r.1).toNat).sum
theorem rsN_app (a b : List (Int × Int)) : rsN (a ++ b) = rsN a + rsN b := by simp [rsN]
theorem rsN_take (l : List (Int × Int)) (i : Nat) : rsN (l.take i) ≤ rsN l := by
  have := rsN_app (l.take i) (l.drop i)
  rw [List.take_append_drop] at this
  omega
theorem cntF_run {f : Nat → Bool} {s : Nat} : ∀ x, s ≤ x → (∀ z, s ≤ z → z < x → f z = true) → cntF f x = cntF f s + (x - s)
  | 0, h, _ => by rw [show s = 0 by omega]; rfl
  | x + 1, h, k => by
    by_cases e : s = x + 1
    · subst e; omega
    · rw [cntF, cntF_run x (by omega) fun z a b => k z a (by omega), k x (by omega) (by omega)]
      simp only [Bool.toNat_true]; omega
theorem rl_sum {f : Nat → Bool} : ∀ x, rsN (rl f x) = cntF f x :=
  rl_ind (M := fun x l => rsN l = cntF f x) rfl (fun x k ih => by rw [ih, cntF, k]; rfl)
    (fun s x hs k k2 ih => by
      rw [rsN_app, ih, cntF_run x (by omega) k2]
      simp [rsN])
theorem rowsOf_at {p : Nat → Nat → Bool} {w h y : Nat} (hy : y < h) : (rowsOf p w h)[y]? = some (rl (fun x => p x y) w) := by simp [rowsOf, hy]
theorem rowsOf_ok {p : Nat → Nat → Bool} {w h : Nat} (s : sizeOk w h) : okRows w (rowsOf p w h) := by
  refine ⟨by rw [rowsOf_len]; exact s, fun l hl => ?_⟩
  simp only [rowsOf, List.mem_map] at hl
  obtain ⟨y, _, rfl⟩ := hl
  exact rl_row (Nat.le_refl _)
theorem rowsOf_bk {p : Nat → Nat → Bool} {w h i j : Nat} (hi : i < w) (hj : j < h) : bkP (rowsOf p w h) i j = p i j := by
  unfold bkP
  rw [List.getD_eq_getElem?_getD, rowsOf_at hj, Option.getD_some, rl_in, decide_eq_true hi, Bool.true_and]
section
variable {P : Prog} {H0 H : Heap} {R : List As} {Q : Out → Heap → Prop} {o : BmO}
theorem smallK (hq : HasKit2 P) (k : BmOk H0 o) {b c : Nat} {l : List V} (hc : Hs H R) (hm : Cel b ([.int .i64 o.w, .int .i64 o.h, o.v] ++ l) ∈ R) (hQ : Q (.ret (.bool (decide (64 * o.ws.length + 64 ≤ 60000)))) H) : Call P 98 [.sl (some (b, 0)) 1 c 3, .int .i64 60000] H Q := by
  refine call_of hq.h_burinkit_Small rfl ?_
  obtain ⟨a1, c1, e1, hv⟩ := k.arr.shape
  have hk := k.len
  have hr := rd_s (hc.celm hm) (o := 2)
  rw [hv] at hr
  simp -implicitDefEqProofs -dsimp (disch := omega) only [go_sem, Nat.reduceEqDiff, ↓reduceIte, Nat.reduceAdd, Nat.reduceMul, Nat.reduceSub, Nat.reduceLT, Nat.reduceLeDiff, Int.reduceLT, Int.reduceLE, Int.reduceEq, Int.reduceNeg, Int.reduceAdd, Int.reduceMul, Int.reduceSub, Int.reduceToNat, reduceCtorEq, dec_t, dec_f, ]
  refine loop_cnt 1 (fun i => ⟨[(0, .sl (some (b, 0)) 1 c 3), (1, .int .i64 60000), (5, .int .i64 ((if i = 0 then 0 else 64 * o.ws.length + 64 : Nat) : Int)), (6, .int .i64 i)], []⟩) (fun i H' => H = H' ∧ (i = 0 ∨ 64 * o.ws.length + 64 ≤ 60000)) (fun i H1 K hi ⟨hH, h1⟩ hn hx hrr => ?_) 0 H (by omega) ⟨rfl, Or.inl rfl⟩
  subst hH
  by_cases e : i = 0
  · subst e
    rw [if_pos rfl]
    have hn := hn (by omega) H
    rw [if_neg (by omega)] at hn
    have ee : ((0 : Nat) : Int) + 64 * (o.ws.length : Int) + 64 = ((64 * o.ws.length + 64 : Nat) : Int) := by omega
    by_cases hbig : 64 * o.ws.length + 64 ≤ 60000
    · simp -implicitDefEqProofs -dsimp (disch := omega) only [go_sem, Nat.reduceEqDiff, ↓reduceIte, Nat.reduceAdd, Nat.reduceMul, Nat.reduceSub, Nat.reduceLT, Nat.reduceLeDiff, Int.reduceLT, Int.reduceLE, Int.reduceEq, Int.reduceNeg, Int.reduceAdd, Int.reduceMul, Int.reduceSub, Int.reduceToNat, reduceCtorEq, dec_t, dec_f, burinkit_Small_l0, Int.toNat_natCast, hr, w64, ee, cadd1]
      exact hn ⟨rfl, Or.inr hbig⟩
    · rw [decide_eq_false (by omega)] at hQ
      simp -implicitDefEqProofs -dsimp (disch := omega) only [go_sem, Nat.reduceEqDiff, ↓reduceIte, Nat.reduceAdd, Nat.reduceMul, Nat.reduceSub, Nat.reduceLT, Nat.reduceLeDiff, Int.reduceLT, Int.reduceLE, Int.reduceEq, Int.reduceNeg, Int.reduceAdd, Int.reduceMul, Int.reduceSub, Int.reduceToNat, reduceCtorEq, dec_t, dec_f, burinkit_Small_l0, Int.toNat_natCast, hr, w64, ee, cadd1]
      rw [hrr]
      simp -implicitDefEqProofs -dsimp (disch := omega) only [go_sem, Nat.reduceEqDiff, ↓reduceIte, Nat.reduceAdd, Nat.reduceMul, Nat.reduceSub, Nat.reduceLT, Nat.reduceLeDiff, Int.reduceLT, Int.reduceLE, Int.reduceEq, Int.reduceNeg, Int.reduceAdd, Int.reduceMul, Int.reduceSub, Int.reduceToNat, reduceCtorEq, dec_t, dec_f, ]
      exact hQ
  · obtain rfl : i = 1 := by omega
    rw [decide_eq_true (by omega)] at hQ
    simp -implicitDefEqProofs -dsimp (disch := omega) only [go_sem, Nat.reduceEqDiff, ↓reduceIte, Nat.reduceAdd, Nat.reduceMul, Nat.reduceSub, Nat.reduceLT, Nat.reduceLeDiff, Int.reduceLT, Int.reduceLE, Int.reduceEq, Int.reduceNeg, Int.reduceAdd, Int.reduceMul, Int.reduceSub, Int.reduceToNat, reduceCtorEq, dec_t, dec_f, burinkit_Small_l0]
    rw [hx]
    simp -implicitDefEqProofs -dsimp (disch := omega) only [go_sem, Nat.reduceEqDiff, ↓reduceIte, Nat.reduceAdd, Nat.reduceMul, Nat.reduceSub, Nat.reduceLT, Nat.reduceLeDiff, Int.reduceLT, Int.reduceLE, Int.reduceEq, Int.reduceNeg, Int.reduceAdd, Int.reduceMul, Int.reduceSub, Int.reduceToNat, reduceCtorEq, dec_t, dec_f, ]
    exact hQ
end
end Go.Ab
