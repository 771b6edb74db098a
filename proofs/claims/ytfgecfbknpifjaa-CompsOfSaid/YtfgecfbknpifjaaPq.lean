/- A flood fill: what it finds is all that is connected. Conditions: none. -/
import Derived.Test.YtfgecfbknpifjaaPy
set_option linter.all false
namespace Go.Ab
abbrev Dot := Nat × Nat
/-- What is left of a bitmap. -/
def lft (p : Nat → Nat → Bool) (D : List Dot) : Nat → Nat → Bool := fun x y => p x y && !D.contains (x, y)
variable {p : Nat → Nat → Bool} {w h x0 y0 : Nat} {D : List Dot}
structure Fl (p : Nat → Nat → Bool) (w h x0 y0 : Nat) (D : List Dot) : Prop where
  hd : D[0]? = some (x0, y0)
  bl : ∀ d ∈ D, blk_ p w h d.1 d.2 ∧ ConX p w h x0 y0 d.1 d.2
  nd : D.Nodup
theorem Fl.len (k : Fl p w h x0 y0 D) : 0 < D.length ∧ D.length ≤ h * w := by
  refine ⟨(List.getElem?_eq_some_iff.1 k.hd).1, pig _ _ (fun i => match D[i]? with | some d => d.2 * w + d.1 | none => 0) (fun i hi => ?_) fun i j hi hj e => ?_⟩
  · rw [List.getElem?_eq_getElem hi]
    obtain ⟨⟨b1, b2, _⟩, _⟩ := k.bl _ (List.getElem_mem hi)
    have := Nat.mul_le_mul_right w (show D[i].2 + 1 ≤ h from b2)
    rw [Nat.add_mul, Nat.one_mul] at this
    dsimp only; omega
  · rw [List.getElem?_eq_getElem hi, List.getElem?_eq_getElem hj] at e
    obtain ⟨⟨a1, _, _⟩, _⟩ := k.bl _ (List.getElem_mem hi)
    obtain ⟨⟨b1, _, _⟩, _⟩ := k.bl _ (List.getElem_mem hj)
    dsimp only at e
    have m1 : (D[i].2 * w + D[i].1) % w = D[i].1 := by rw [Nat.add_comm, Nat.add_mul_mod_self_right, Nat.mod_eq_of_lt a1]
    have m2 : (D[j].2 * w + D[j].1) % w = D[j].1 := by rw [Nat.add_comm, Nat.add_mul_mod_self_right, Nat.mod_eq_of_lt b1]
    have e1 : D[i].1 = D[j].1 := by rw [← m1, ← m2, e]
    have e2 : D[i].2 = D[j].2 := by
      have : D[i].2 * w = D[j].2 * w := by omega
      exact Nat.eq_of_mul_eq_mul_right (by omega) this
    exact (List.getElem_inj k.nd).1 (Prod.ext e1 e2)
theorem Fl.one (hb : blk_ p w h x0 y0) : Fl p w h x0 y0 [(x0, y0)] := ⟨rfl, fun d hd => by simp at hd; subst hd; exact ⟨hb, .refl⟩, by simp⟩
theorem Fl.snoc (k : Fl p w h x0 y0 D) {d : Dot} {x y : Nat} (hd : d ∈ D) (hb : blk_ p w h x y) (hn : nb d.1 d.2 x y) (hx : (x, y) ∉ D) : Fl p w h x0 y0 (D ++ [(x, y)]) := by
  refine ⟨?_, fun e he => ?_, ?_⟩
  · rw [List.getElem?_append_left k.len.1]; exact k.hd
  · rcases List.mem_append.1 he with he | he
    · exact k.bl e he
    · simp at he; subst he
      exact ⟨hb, (k.bl d hd).2.step hb hn⟩
  · rw [List.nodup_append]
    exact ⟨k.nd, by simp, fun a ha b hb' e => by simp at hb'; subst hb' e; exact hx ha⟩
/-- All neighbours up to number n (by j, k from -1 to 1) of the i-th are there. -/
def NbD (p : Nat → Nat → Bool) (w h : Nat) (D : List Dot) (i n : Nat) : Prop := ∀ d, D[i]? = some d → ∀ m, m < n → ∀ x y : Nat, (x : Int) = d.1 + (m % 3 : Nat) - 1 → (y : Int) = d.2 + (m / 3 : Nat) - 1 → blk_ p w h x y → (x, y) ∈ D
theorem NbD.app {i n : Nat} (k : NbD p w h D i n) (hi : i < D.length) (e : Dot) : NbD p w h (D ++ [e]) i n := fun d hd m hm x y hx hy hb => by
  rw [List.getElem?_append_left hi] at hd
  exact List.mem_append_left _ (k d hd m hm x y hx hy hb)
structure FlI (p : Nat → Nat → Bool) (w h x0 y0 i n : Nat) (D : List Dot) : Prop where
  fl : Fl p w h x0 y0 D
  old : ∀ i', i' < i → NbD p w h D i' 9
  now : NbD p w h D i n
  lt : i ≤ D.length
theorem FlI.app {i n : Nat} (k : FlI p w h x0 y0 i n D) {d : Dot} {x y : Nat} (hd : D[i]? = some d) (hx : (x : Int) = d.1 + (n % 3 : Nat) - 1) (hy : (y : Int) = d.2 + (n / 3 : Nat) - 1) (hn : n < 9) (hb : lft p D x y = true) (hl : x < w ∧ y < h) : FlI p w h x0 y0 i (n + 1) (D ++ [(x, y)]) := by
  have hi := (List.getElem?_eq_some_iff.1 hd).1
  unfold lft at hb
  rw [Bool.and_eq_true, Bool.not_eq_true'] at hb
  have hnot : (x, y) ∉ D := by
    intro hm
    have := List.contains_iff_mem.2 hm
    rw [hb.2] at this; cases this
  refine ⟨k.fl.snoc (List.mem_of_getElem? hd) ⟨hl.1, hl.2, hb.1⟩ ⟨by omega, by omega, by omega, by omega⟩ hnot, fun i' hi' => (k.old i' hi').app (by omega) _, fun d' hd' m hm x' y' hx' hy' hb' => ?_, by rw [List.length_append]; have := k.lt; omega⟩
  by_cases c : m < n
  · exact k.now.app hi _ d' hd' m c x' y' hx' hy' hb'
  · obtain rfl : m = n := by omega
    rw [List.getElem?_append_left hi, hd] at hd'
    cases hd'
    have : x' = x := by omega
    have : y' = y := by omega
    subst_vars
    exact List.mem_append_right _ (List.mem_singleton.2 rfl)
theorem FlI.skip {i n : Nat} (k : FlI p w h x0 y0 i n D) {d : Dot} (hd : D[i]? = some d) (hw : ∀ x y : Nat, (x : Int) = d.1 + (n % 3 : Nat) - 1 → (y : Int) = d.2 + (n / 3 : Nat) - 1 → x < w → y < h → lft p D x y = false) : FlI p w h x0 y0 i (n + 1) D := by
  refine ⟨k.fl, k.old, fun d' hd' m hm x' y' hx' hy' hb' => ?_, k.lt⟩
  by_cases c : m < n
  · exact k.now d' hd' m c x' y' hx' hy' hb'
  · obtain rfl : m = n := by omega
    rw [hd] at hd'; cases hd'
    have := hw x' y' hx' hy' hb'.1 hb'.2.1
    unfold lft at this
    rw [hb'.2.2, Bool.true_and, Bool.not_eq_false'] at this
    exact List.contains_iff_mem.1 this
theorem FlI.next {i : Nat} (k : FlI p w h x0 y0 i 9 D) (hi : i < D.length) : FlI p w h x0 y0 (i + 1) 0 D :=
  ⟨k.fl, fun i' hi' => by rcases Nat.lt_or_ge i' i with c | c; exact k.old i' c; obtain rfl : i' = i := by omega
                          exact k.now, fun _ _ m hm => absurd hm (Nat.not_lt_zero m), hi⟩
/-- At the end: all that is connected. -/
theorem FlI.all (k : FlI p w h x0 y0 D.length 0 D) (hb : blk_ p w h x0 y0) {x y : Nat} : (x, y) ∈ D ↔ ConX p w h x0 y0 x y := by
  refine ⟨fun hm => (k.fl.bl _ hm).2, fun hc => ?_⟩
  induction hc with
  | refl => exact List.mem_of_getElem? k.fl.hd
  | @step x1 y1 x2 y2 hc' hb' hn ih =>
    obtain ⟨i, hi⟩ := List.mem_iff_getElem?.1 ih
    obtain ⟨n1, n2, n3, n4⟩ := hn
    have hl := (List.getElem?_eq_some_iff.1 hi).1
    refine k.old i hl (x1, y1) hi ((y2 + 1 - y1) * 3 + (x2 + 1 - x1)) (by omega) x2 y2 ?_ ?_ hb'
    · dsimp only; omega
    · dsimp only; omega
/-! ### The box -/
structure Ext4 (D : List Dot) (n lx hx hy : Nat) : Prop where
  lx : (∃ d ∈ D.take n, d.1 = lx) ∧ ∀ d ∈ D.take n, lx ≤ d.1
  hx : (∃ d ∈ D.take n, d.1 = hx) ∧ ∀ d ∈ D.take n, d.1 ≤ hx
  hy : (∃ d ∈ D.take n, d.2 = hy) ∧ ∀ d ∈ D.take n, d.2 ≤ hy
theorem Ext4.one (hd : D[0]? = some (x0, y0)) : Ext4 D 1 x0 x0 y0 := by
  have e : D.take 1 = [(x0, y0)] := by
    cases D with
    | nil => cases hd
    | cons a l => simp at hd; subst hd; simp
  refine ⟨?_, ?_, ?_⟩ <;> rw [e] <;> simp
theorem Ext4.step {n lx hx hy : Nat} {d : Dot} (k : Ext4 D n lx hx hy) (hd : D[n]? = some d) : Ext4 D (n + 1) (if d.1 < lx then d.1 else lx) (if d.1 > hx then d.1 else hx) (if d.2 > hy then d.2 else hy) := by
  obtain ⟨⟨⟨a, a1, a2⟩, a3⟩, ⟨⟨b, b1, b2⟩, b3⟩, ⟨⟨c, c1, c2⟩, c3⟩⟩ := k
  obtain ⟨hl, hd⟩ := List.getElem?_eq_some_iff.1 hd
  have e : D.take (n + 1) = D.take n ++ [d] := by rw [← hd]; exact (List.take_append_getElem hl).symm
  have inl : ∀ z ∈ D.take n, z ∈ D.take (n + 1) := fun z hz => by rw [e]; exact List.mem_append_left _ hz
  have ind : d ∈ D.take (n + 1) := by rw [e]; simp
  have cases_ : ∀ z ∈ D.take (n + 1), z ∈ D.take n ∨ z = d := fun z hz => by rw [e] at hz; simpa using hz
  refine ⟨⟨?_, fun z hz => ?_⟩, ⟨?_, fun z hz => ?_⟩, ⟨?_, fun z hz => ?_⟩⟩
  · split
    · exact ⟨d, ind, rfl⟩
    · exact ⟨a, inl a a1, a2⟩
  · rcases cases_ z hz with hz | rfl
    · have := a3 z hz; split <;> omega
    · split <;> omega
  · split
    · exact ⟨d, ind, rfl⟩
    · exact ⟨b, inl b b1, b2⟩
  · rcases cases_ z hz with hz | rfl
    · have := b3 z hz; split <;> omega
    · split <;> omega
  · split
    · exact ⟨d, ind, rfl⟩
    · exact ⟨c, inl c c1, c2⟩
  · rcases cases_ z hz with hz | rfl
    · have := c3 z hz; split <;> omega
    · split <;> omega
/-- The piece. -/
def dotP (D : List Dot) (lx ly : Nat) : Nat → Nat → Bool := fun a b => D.contains (a + lx, b + ly)
def dotPc (D : List Dot) (lx ly hx hy : Nat) : PcP := ⟨(lx : Nat), (ly : Nat), hx - lx + 1, hy - ly + 1, dotP D lx ly⟩
theorem dot_pin {lx hx hy : Nat} (k : Ext4 D D.length lx hx hy) (hy0 : ∀ d ∈ D, y0 ≤ d.2) (x y : Nat) : pin (dotPc D lx y0 hx hy) x y = true ↔ (x, y) ∈ D := by
  obtain ⟨⟨_, a3⟩, ⟨_, b3⟩, ⟨_, c3⟩⟩ := k
  rw [List.take_length] at a3 b3 c3
  unfold pin dotPc dotP
  dsimp only
  rw [Bool.and_eq_true, decide_eq_true_eq, Int.toNat_natCast, Int.toNat_natCast]
  constructor
  · rintro ⟨⟨h1, h2, h3, h4⟩, h5⟩
    rw [show x - lx + lx = x by omega, show y - y0 + y0 = y by omega] at h5
    exact List.contains_iff_mem.1 h5
  · intro hm
    have := a3 _ hm; have := b3 _ hm; have := c3 _ hm; have := hy0 _ hm
    dsimp only at *
    refine ⟨by omega, ?_⟩
    rw [show x - lx + lx = x by omega, show y - y0 + y0 = y by omega]
    exact List.contains_iff_mem.2 hm
theorem dot_tight {lx hx hy : Nat} (k : Ext4 D D.length lx hx hy) (hd : D[0]? = some (x0, y0)) (hy0 : ∀ d ∈ D, y0 ≤ d.2) : Tight (dotPc D lx y0 hx hy) := by
  have pn := dot_pin k hy0
  obtain ⟨⟨⟨a, a1, a2⟩, a3⟩, ⟨⟨b, b1, b2⟩, b3⟩, ⟨⟨c, c1, c2⟩, c3⟩⟩ := k
  rw [List.take_length] at a1 a3 b1 b3 c1 c3
  have h0 := List.mem_of_getElem? hd
  have := a3 _ h0; have := b3 _ h0; have := c3 _ h0
  have k1 := a3 _ b1
  have k2 := hy0 _ c1
  dsimp only at *
  refine ⟨by simp [dotPc], by simp [dotPc], ⟨a.2, (pn _ _).2 ?_⟩, ⟨b.2, (pn _ _).2 ?_⟩, ⟨x0, (pn _ _).2 ?_⟩, ⟨c.1, (pn _ _).2 ?_⟩⟩
  · rw [show (dotPc D lx y0 hx hy).x.toNat = a.1 by simp [dotPc, a2]]; exact a1
  · rw [show (dotPc D lx y0 hx hy).x.toNat + (dotPc D lx y0 hx hy).w - 1 = b.1 by simp only [dotPc, Int.toNat_natCast]; omega]; exact b1
  · rw [show (dotPc D lx y0 hx hy).y.toNat = y0 by simp [dotPc]]; exact h0
  · rw [show (dotPc D lx y0 hx hy).y.toNat + (dotPc D lx y0 hx hy).h - 1 = c.2 by simp only [dotPc, Int.toNat_natCast]; omega]; exact c1
end Go.Ab
