/- The closed statement's three bitmaps: a snake, a chessboard, dots. Conditions: none. -/
import Derived.Test.YtfgecfbknpifjaaPt
set_option linter.all false
namespace Go.Ab
variable {p : Nat → Nat → Bool} {w h : Nat}
theorem one_piece {x0 y0 : Nat} (h0 : blk_ p w h x0 y0) (hc : ∀ x y, blk_ p w h x y → ConX p w h x y x0 y0) : ∃ P, pcsOf p w h = [P] := by
  have key : ∀ {i : Nat} {P : PcP}, (pcsOf p w h)[i]? = some P → pin P x0 y0 = true := fun {i P} e => by
    have f := (pcs_first e).1
    obtain ⟨l1, l2⟩ := pin_lt e f
    exact (pcs_con e f).2 (hc _ _ ⟨l1, l2, (pcs_cover l1 l2).2 ⟨i, P, e, f⟩⟩)
  obtain ⟨i, P, e, _⟩ := (pcs_cover h0.1 h0.2.1).1 h0.2.2
  have hl := (List.getElem?_eq_some_iff.1 e).1
  have all : ∀ j, j < (pcsOf p w h).length → j = i := fun j hj => pcs_apart (List.getElem?_eq_getElem hj) e (key (List.getElem?_eq_getElem hj)) (key e)
  have l1 : (pcsOf p w h).length = 1 := by
    have h1 := all 0 (by omega)
    rcases Nat.lt_or_ge 1 (pcsOf p w h).length with k | k
    · have := all 1 k; omega
    · omega
  match hp : pcsOf p w h, l1 with
  | [P], _ => exact ⟨P, rfl⟩
theorem con_left {y a : Nat} (hy : y < h) (hb : ∀ x, x ≤ a → blk_ p w h x y) : ∀ b, b ≤ a → ConX p w h a y (a - b) y
  | 0, _ => .refl
  | b + 1, hb1 => (con_left hy hb b (by omega)).step (hb _ (by omega)) ⟨by omega, by omega, by omega, by omega⟩
theorem con_right {y a : Nat} (hy : y < h) : ∀ b, (∀ x, a ≤ x → x ≤ a + b → blk_ p w h x y) → ConX p w h a y (a + b) y
  | 0, _ => .refl
  | b + 1, hb => (con_right hy b fun x h1 h2 => hb x h1 (by omega)).step (hb _ (by omega) (by omega)) ⟨by omega, by omega, by omega, by omega⟩
/-! ### The snake -/
def snk (x y : Nat) : Bool := decide (y % 2 = 0 ∨ (y % 4 = 1 ∧ x = 199) ∨ (y % 4 = 3 ∧ x = 0))
theorem snk_even : ∀ m, 2 * m < 201 → ∀ x, x < 200 → ConX snk 200 201 x (2 * m) 0 0
  | 0, _, x, hx => by
    have := con_left (p := snk) (w := 200) (h := 201) (y := 0) (a := x) (by omega) (fun z hz => ⟨by omega, by omega, by unfold snk; simp⟩) x (Nat.le_refl _)
    rwa [Nat.sub_self] at this
  | m + 1, hm, x, hx => by
    have row : ∀ z, z < 200 → blk_ snk 200 201 z (2 * (m + 1)) := fun z hz => ⟨hz, hm, by unfold snk; rw [decide_eq_true]; omega⟩
    have row' : ∀ z, z < 200 → blk_ snk 200 201 z (2 * m) := fun z hz => ⟨hz, by omega, by unfold snk; rw [decide_eq_true]; omega⟩
    by_cases e : m % 2 = 0
    · have h1 := con_right (p := snk) (w := 200) (h := 201) (y := 2 * (m + 1)) (a := x) (by omega) (199 - x) fun z h1 h2 => row z (by omega)
      rw [show x + (199 - x) = 199 by omega] at h1
      have h2 : ConX snk 200 201 x (2 * (m + 1)) 199 (2 * m + 1) := h1.step ⟨by omega, by omega, by unfold snk; rw [decide_eq_true]; omega⟩ ⟨by omega, by omega, by omega, by omega⟩
      exact (h2.step (row' 199 (by omega)) ⟨by omega, by omega, by omega, by omega⟩).cat (snk_even m (by omega) 199 (by omega))
    · have h1 := con_left (p := snk) (w := 200) (h := 201) (y := 2 * (m + 1)) (a := x) (by omega) (fun z hz => row z (by omega)) x (Nat.le_refl _)
      rw [Nat.sub_self] at h1
      have h2 : ConX snk 200 201 x (2 * (m + 1)) 0 (2 * m + 1) := h1.step ⟨by omega, by omega, by unfold snk; rw [decide_eq_true]; omega⟩ ⟨by omega, by omega, by omega, by omega⟩
      exact (h2.step (row' 0 (by omega)) ⟨by omega, by omega, by omega, by omega⟩).cat (snk_even m (by omega) 0 (by omega))
theorem snk_con : ∀ x y, blk_ snk 200 201 x y → ConX snk 200 201 x y 0 0 := fun x y ⟨hx, hy, hb⟩ => by
  by_cases e : y % 2 = 0
  · have := snk_even (y / 2) (by omega) x hx
    rwa [show 2 * (y / 2) = y by omega] at this
  · unfold snk at hb
    rw [decide_eq_true_eq] at hb
    have h1 : ConX snk 200 201 x y x (2 * (y / 2)) := ConX.refl.step ⟨hx, by omega, by unfold snk; rw [decide_eq_true]; omega⟩ ⟨by omega, by omega, by omega, by omega⟩
    exact h1.cat (snk_even (y / 2) (by omega) x hx)
theorem snk_pcs : ∃ P, pcsOf snk 200 201 = [P] ∧ P.w = 200 ∧ P.h = 201 ∧ Wds P.w P.h P.p = Wds 200 201 snk := by
  obtain ⟨P, hP⟩ := one_piece (p := snk) (w := 200) (h := 201) (x0 := 0) (y0 := 0) ⟨by omega, by omega, by decide⟩ snk_con
  have e : (pcsOf snk 200 201)[0]? = some P := by rw [hP]; rfl
  have k := pcs_in (List.mem_of_getElem? e)
  have cov : ∀ x y, x < 200 → y < 201 → (pin P x y = true ↔ snk x y = true) := fun x y hx hy => by
    refine Iff.trans ?_ (pcs_cover (p := snk) hx hy).symm
    constructor
    · intro h1; exact ⟨0, P, e, h1⟩
    · rintro ⟨i, Q, e2, h2⟩
      rw [hP] at e2
      match i, e2 with
      | 0, e2 => cases e2; exact h2
  have p0 := pinb ((cov 0 0 (by omega) (by omega)).2 (by decide))
  have p1 := pinb ((cov 199 200 (by omega) (by omega)).2 (by decide))
  obtain ⟨k1, k2, k3, k4, k5, k6, k7⟩ := k
  have ew : P.w = 200 := by omega
  have eh : P.h = 201 := by omega
  refine ⟨P, hP, ew, eh, ?_⟩
  rw [ew, eh]
  refine Wds_eq.2 fun x y hx hy => ?_
  have := cov x y hx hy
  unfold pin at this
  rw [decide_eq_true (by omega), Bool.true_and, show x - P.x.toNat = x by omega, show y - P.y.toNat = y by omega] at this
  cases h1 : P.p x y <;> cases h2 : snk x y <;> simp_all
/-! ### The board -/
def brd (x y : Nat) : Bool := decide ((x + y) % 2 = 1)
theorem brd_row : ∀ m, 2 * m + 1 < 150 → ConX brd 150 150 (2 * m + 1) 0 1 0
  | 0, _ => .refl
  | m + 1, hm => by
    have h1 : ConX brd 150 150 (2 * (m + 1) + 1) 0 (2 * m + 2) 1 := ConX.refl.step ⟨by omega, by omega, by unfold brd; rw [decide_eq_true]; omega⟩ ⟨by omega, by omega, by omega, by omega⟩
    exact (h1.step (x2 := 2 * m + 1) (y2 := 0) ⟨by omega, by omega, by unfold brd; rw [decide_eq_true]; omega⟩ ⟨by omega, by omega, by omega, by omega⟩).cat (brd_row m (by omega))
theorem brd_con : ∀ y x, blk_ brd 150 150 x y → ConX brd 150 150 x y 1 0
  | 0, x, ⟨hx, hy, hb⟩ => by
    unfold brd at hb
    rw [decide_eq_true_eq] at hb
    have := brd_row (x / 2) (by omega)
    rwa [show 2 * (x / 2) + 1 = x by omega] at this
  | y + 1, x, ⟨hx, hy, hb⟩ => by
    unfold brd at hb
    rw [decide_eq_true_eq] at hb
    by_cases c : x = 0
    · have b' : blk_ brd 150 150 (x + 1) y := ⟨by omega, by omega, by unfold brd; rw [decide_eq_true]; omega⟩
      exact (ConX.refl.step b' ⟨by omega, by omega, by omega, by omega⟩).cat (brd_con y _ b')
    · have b' : blk_ brd 150 150 (x - 1) y := ⟨by omega, by omega, by unfold brd; rw [decide_eq_true]; omega⟩
      exact (ConX.refl.step b' ⟨by omega, by omega, by omega, by omega⟩).cat (brd_con y _ b')
theorem brd_pcs : ∃ P, pcsOf brd 150 150 = [P] := one_piece (x0 := 1) (y0 := 0) ⟨by omega, by omega, by decide⟩ fun x y hb => brd_con y x hb
/-! ### Dots -/
def dts (x y : Nat) : Bool := decide (x % 2 = 0 ∧ y % 2 = 0)
theorem dts_con {x y x' y' : Nat} (hb : dts x y = true) (hc : ConX dts 100 100 x y x' y') : x' = x ∧ y' = y := by
  unfold dts at hb
  rw [decide_eq_true_eq] at hb
  induction hc with
  | refl => exact ⟨rfl, rfl⟩
  | @step x1 y1 x2 y2 hc' hb' hn ih =>
    obtain ⟨rfl, rfl⟩ := ih
    have h3 := hb'.2.2
    unfold dts at h3
    rw [decide_eq_true_eq] at h3
    obtain ⟨n1, n2, n3, n4⟩ := hn
    omega
theorem mono_id {f : Nat → Nat} {n N : Nat} (mono : ∀ i j, i < j → j < n → f i < f j) (lt : ∀ i, i < n → f i < N) (sur : ∀ k, k < N → ∃ i, i < n ∧ f i = k) : n = N ∧ ∀ i, i < n → f i = i := by
  have ge : ∀ i, i < n → i ≤ f i := fun i => by
    induction i with
    | zero => intro _; omega
    | succ i ih => intro hi; have := ih (by omega); have := mono i (i + 1) (by omega) hi; omega
  have id_ : ∀ i, i < n → f i = i := fun i => by
    induction i using Nat.strongRecOn with
    | _ i ih =>
      intro hi
      have h1 := ge i hi
      have h2 := lt i hi
      obtain ⟨j, h3, h4⟩ := sur i (by omega)
      rcases Nat.lt_trichotomy j i with c | c | c
      · have := ih j c h3; omega
      · rw [← c] at h4 ⊢; omega
      · have := mono i j c h3; omega
  refine ⟨?_, id_⟩
  rcases Nat.lt_trichotomy n N with c | c | c
  · obtain ⟨j, h3, h4⟩ := sur n c
    have := id_ j h3; omega
  · exact c
  · have := lt N c; have := id_ N c; omega
theorem dts_pcs : (pcsOf dts 100 100).length = 2500 ∧ ∃ P, (pcsOf dts 100 100)[51]? = some P ∧ P.x = 2 ∧ P.y = 2 := by
  have pt : ∀ {i : Nat} {P : PcP}, (pcsOf dts 100 100)[i]? = some P → fpx dts 100 100 i < 100 ∧ P.y.toNat < 100 ∧ dts (fpx dts 100 100 i) P.y.toNat = true := fun {i P} e => by
    have f := (pcs_first e).1
    obtain ⟨l1, l2⟩ := pin_lt e f
    exact ⟨l1, l2, (pcs_cover l1 l2).2 ⟨i, P, e, f⟩⟩
  obtain ⟨g, hg⟩ : ∃ g : Nat → Nat, ∀ (i : Nat) (P : PcP), (pcsOf dts 100 100)[i]? = some P → g i = P.y.toNat / 2 * 50 + fpx dts 100 100 i / 2 := ⟨fun i => match (pcsOf dts 100 100)[i]? with | some P => P.y.toNat / 2 * 50 + fpx dts 100 100 i / 2 | none => 0, fun i P e => by simp only [e]⟩
  have at_ : ∀ i, i < (pcsOf dts 100 100).length → ∃ P, (pcsOf dts 100 100)[i]? = some P := fun i hi => ⟨_, List.getElem?_eq_getElem hi⟩
  have ev : ∀ {x y : Nat}, dts x y = true → x % 2 = 0 ∧ y % 2 = 0 := fun hb => by unfold dts at hb; rwa [decide_eq_true_eq] at hb
  obtain ⟨hN, hid⟩ := mono_id (f := g) (n := (pcsOf dts 100 100).length) (N := 2500) (fun i j hij hj => by
    obtain ⟨P, e1⟩ := at_ i (by omega)
    obtain ⟨Q, e2⟩ := at_ j hj
    rw [hg i P e1, hg j Q e2]
    have o := pcs_order e1 e2 hij
    have a1 := pt e1
    have a2 := pt e2
    have b1 := ev a1.2.2
    have b2 := ev a2.2.2
    omega) (fun i hi => by
    obtain ⟨P, e1⟩ := at_ i hi
    rw [hg i P e1]
    have a1 := pt e1
    omega) (fun k hk => by
    obtain ⟨i, P, e, h1⟩ := (pcs_cover (p := dts) (w := 100) (h := 100) (x := k % 50 * 2) (y := k / 50 * 2) (by omega) (by omega)).1 (by unfold dts; rw [decide_eq_true]; omega)
    have := dts_con (by unfold dts; rw [decide_eq_true]; omega) ((pcs_con e h1).1 (pcs_first e).1)
    refine ⟨i, (List.getElem?_eq_some_iff.1 e).1, ?_⟩
    rw [hg i P e]
    omega)
  refine ⟨hN, ?_⟩
  obtain ⟨P, e⟩ := at_ 51 (by omega)
  have h1 := hid 51 (by omega)
  rw [hg 51 P e] at h1
  have a1 := pt e
  have b1 := ev a1.2.2
  have t := pcs_tight e
  obtain ⟨y, ty⟩ := t.l
  have := dts_con a1.2.2 ((pcs_con e (pcs_first e).1).1 ty)
  have x0 := t.x0
  have y0 := t.y0
  exact ⟨P, e, by omega, by omega⟩
end Go.Ab
