/- A grid of numbers in a list; pieces that mark their pixels in it. Conditions: none. -/
import Derived.Test.YtfgecfbknpifjaaPl
set_option linter.all false
namespace Go.Ab
def grid (w h : Nat) (g : Nat → Nat → Nat) : List V := (List.range (h * w)).map fun n => .int .i64 ((g (n % w) (n / w) : Nat) : Int)
theorem grid_len (w h : Nat) (g : Nat → Nat → Nat) : (grid w h g).length = h * w := by simp [grid]
theorem gix_lt {w h x y : Nat} (hx : x < w) (hy : y < h) : y * w + x < h * w := by
  have := Nat.mul_le_mul_right w (show y + 1 ≤ h from hy)
  rw [Nat.add_mul, Nat.one_mul] at this; omega
theorem gix_m {w x y : Nat} (hx : x < w) : (y * w + x) % w = x := by rw [Nat.add_comm, Nat.add_mul_mod_self_right, Nat.mod_eq_of_lt hx]
theorem gix_d {w x y : Nat} (hx : x < w) : (y * w + x) / w = y := by rw [Nat.add_comm, Nat.add_mul_div_right _ _ (by omega), Nat.div_eq_of_lt hx]; omega
theorem grid_at {w h x y : Nat} (g : Nat → Nat → Nat) (hx : x < w) (hy : y < h) : (grid w h g)[y * w + x]? = some (.int .i64 ((g x y : Nat) : Int)) := by
  unfold grid
  rw [List.getElem?_map, List.getElem?_range (gix_lt hx hy), Option.map_some, gix_m hx, gix_d hx]
def updN (g : Nat → Nat → Nat) (x y k : Nat) : Nat → Nat → Nat := fun i j => if i = x ∧ j = y then k else g i j
theorem grid_set {w h x y k : Nat} (g : Nat → Nat → Nat) (hx : x < w) (_hy : y < h) : (grid w h g).set (y * w + x) (.int .i64 ((k : Nat) : Int)) = grid w h (updN g x y k) := by
  refine List.ext_getElem? fun n => ?_
  rw [List.getElem?_set, grid_len]
  unfold grid
  rw [List.getElem?_map, List.getElem?_map]
  have hl := gix_lt hx _hy
  by_cases e : y * w + x = n
  · subst e
    rw [if_pos rfl, if_pos hl, List.getElem?_range hl, Option.map_some]
    unfold updN
    rw [if_pos ⟨gix_m hx, gix_d hx⟩]
  · rw [if_neg e]
    by_cases c : n < h * w
    · rw [List.getElem?_range c, Option.map_some, Option.map_some]
      unfold updN
      rw [if_neg]
      rintro ⟨e1, e2⟩
      have := Nat.div_add_mod n w
      rw [e1, e2, Nat.mul_comm] at this
      exact e this
    · rw [List.getElem?_eq_none (by simpa using c)]; rfl
theorem reps_grid (w h : Nat) : reps [.int .i64 0] (h * w) = grid w h fun _ _ => 0 := by
  have e : ∀ n, reps [V.int .i64 0] n = List.replicate n (.int .i64 0) := fun n => by
    induction n with
    | zero => rfl
    | succ n ih => rw [reps, ih]; rfl
  rw [e]
  refine List.ext_getElem (by simp [grid]) fun n h1 h2 => ?_
  simp [grid]
/-! ### Pieces mark their pixels. -/
variable {p : Nat → Nat → Bool} {w h : Nat}
/-- Whose a pixel is behind the first i pieces: its number and one, or 0. -/
def ownN (L : List PcP) : Nat → Nat → Nat → Nat
  | 0, _, _ => 0
  | i + 1, x, y => if (L[i]?.any fun P => pin P x y) = true then i + 1 else ownN L i x y
theorem own_in {i j : Nat} {P : PcP} {x y : Nat} (e : (pcsOf p w h)[i]? = some P) (h1 : pin P x y = true) : i < j → ownN (pcsOf p w h) j x y = i + 1 := by
  intro hij
  induction j with
  | zero => omega
  | succ j ih =>
    rw [ownN]
    by_cases c : i = j
    · subst c; rw [e, if_pos (by simpa using h1)]
    · rw [if_neg, ih (by omega)]
      intro k
      cases e2 : (pcsOf p w h)[j]? with
      | none => rw [e2] at k; cases k
      | some Q => rw [e2] at k; exact c (pcs_apart e e2 h1 (by simpa using k))
theorem own_no {j : Nat} {x y : Nat} {L : List PcP} : (∀ (i : Nat) (P : PcP), i < j → L[i]? = some P → pin P x y = false) → ownN L j x y = 0 := by
  induction j with
  | zero => intro _; rfl
  | succ j ih =>
    intro hk
    rw [ownN, if_neg, ih fun i P hi => hk i P (by omega)]
    intro k
    cases e2 : L[j]? with
    | none => rw [e2] at k; cases k
    | some Q => rw [e2] at k; have := hk j Q (by omega) e2; rw [show pin Q x y = true by simpa using k] at this; cases this
/-- In the midst of piece i. -/
def ownP (L : List PcP) (i : Nat) (P : PcP) (yy xx x y : Nat) : Nat := if pin P x y = true ∧ (y < P.y.toNat + yy ∨ y = P.y.toNat + yy ∧ x < P.x.toNat + xx) then i + 1 else ownN L i x y
def rast (p : Nat → Nat → Bool) (w h i : Nat) (P : PcP) : Int := (((P.y.toNat * w + fpx p w h i : Nat) : Nat) : Int)
def fstF (p : Nat → Nat → Bool) (w h i : Nat) (P : PcP) (yy xx : Nat) : Int := if 0 < yy ∨ fpx p w h i < P.x.toNat + xx then rast p w h i P else -1
def lastF (p : Nat → Nat → Bool) (w h : Nat) : Nat → Int
  | 0 => -1
  | i + 1 => match (pcsOf p w h)[i]? with | some P => rast p w h i P | none => 0
/-- What the walk over a piece asks. -/
structure MarkR (W i X Y pw ph : Nat) (pp : Nat → Nat → Bool) (g : Nat → Nat → Nat → Nat → Nat) (f : Nat → Nat → Int) : Prop where
  z : ∀ yy xx, yy < ph → xx < pw → pp xx yy = false → g yy (xx + 1) = g yy xx ∧ f yy (xx + 1) = f yy xx
  b : ∀ yy xx, yy < ph → xx < pw → pp xx yy = true → g yy xx (X + xx) (Y + yy) = 0 ∧ g yy (xx + 1) = updN (g yy xx) (X + xx) (Y + yy) (i + 1) ∧ f yy (xx + 1) = if f yy xx < 0 then ((((Y + yy) * W + X + xx : Nat) : Nat) : Int) else f yy xx
  e : ∀ yy, yy < ph → g yy pw = g (yy + 1) 0 ∧ f yy pw = f (yy + 1) 0
theorem pin_loc {P : PcP} {xx yy : Nat} (hx : xx < P.w) (hy : yy < P.h) : pin P (P.x.toNat + xx) (P.y.toNat + yy) = P.p xx yy := by
  unfold pin
  rw [decide_eq_true (by omega), Bool.true_and, show P.x.toNat + xx - P.x.toNat = xx by omega, show P.y.toNat + yy - P.y.toNat = yy by omega]
theorem pin_box {P : PcP} {x y : Nat} (k : pin P x y = true) : P.x.toNat ≤ x ∧ x < P.x.toNat + P.w ∧ P.y.toNat ≤ y ∧ y < P.y.toNat + P.h := by
  unfold pin at k
  rw [Bool.and_eq_true, decide_eq_true_eq] at k
  exact k.1
theorem marks {i : Nat} {P : PcP} (e : (pcsOf p w h)[i]? = some P) : MarkR w i P.x.toNat P.y.toNat P.w P.h P.p (ownP (pcsOf p w h) i P) (fstF p w h i P) := by
  obtain ⟨f1, f2⟩ := pcs_first e
  have fb := pin_box f1
  refine ⟨fun yy xx hy hx hp => ⟨?_, ?_⟩, fun yy xx hy hx hp => ⟨?_, ?_, ?_⟩, fun yy hy => ⟨?_, ?_⟩⟩
  · funext x y
    unfold ownP
    by_cases c : pin P x y = true
    · have ne : ¬ (x = P.x.toNat + xx ∧ y = P.y.toNat + yy) := by
        rintro ⟨rfl, rfl⟩
        rw [pin_loc hx hy, hp] at c; cases c
      by_cases c2 : y < P.y.toNat + yy ∨ y = P.y.toNat + yy ∧ x < P.x.toNat + xx
      · rw [if_pos ⟨c, by omega⟩, if_pos ⟨c, c2⟩]
      · rw [if_neg (by rintro ⟨_, k⟩; omega), if_neg (by rintro ⟨_, k⟩; omega)]
    · rw [if_neg (fun k => c k.1), if_neg (fun k => c k.1)]
  · unfold fstF
    have ne : ¬ (yy = 0 ∧ fpx p w h i = P.x.toNat + xx) := by
      rintro ⟨rfl, e2⟩
      rw [e2] at f1
      have := pin_loc (P := P) hx hy
      rw [Nat.add_zero, f1, hp] at this
      cases this
    by_cases c : 0 < yy ∨ fpx p w h i < P.x.toNat + xx
    · rw [if_pos c, if_pos (by omega)]
    · rw [if_neg c, if_neg (by omega)]
  · have k := pin_loc (P := P) hx hy
    rw [hp] at k
    unfold ownP
    rw [if_neg (by rintro ⟨_, k⟩; omega)]
    refine own_no fun j Q hj eQ => ?_
    refine Bool.eq_false_iff.2 fun k2 => ?_
    have := pcs_apart eQ e k2 k
    omega
  · have k := pin_loc (P := P) hx hy
    rw [hp] at k
    funext x y
    unfold ownP updN
    dsimp only
    by_cases c : x = P.x.toNat + xx ∧ y = P.y.toNat + yy
    · obtain ⟨rfl, rfl⟩ := c
      rw [if_pos ⟨k, by omega⟩, if_pos ⟨rfl, rfl⟩]
    · rw [if_neg c]
      by_cases c2 : pin P x y = true ∧ (y < P.y.toNat + yy ∨ y = P.y.toNat + yy ∧ x < P.x.toNat + xx)
      · rw [if_pos ⟨c2.1, by omega⟩, if_pos c2]
      · rw [if_neg (fun k2 => c2 ⟨k2.1, by omega⟩), if_neg c2]
  · have k := pin_loc (P := P) hx hy
    rw [hp] at k
    have k2 := f2 _ _ k
    unfold fstF
    by_cases c : 0 < yy ∨ fpx p w h i < P.x.toNat + xx
    · rw [if_pos c, if_pos (by omega), if_neg (by unfold rast; omega)]
    · rw [if_neg c, if_pos (by omega), if_pos (by omega)]
      unfold rast
      rw [show yy = 0 by omega, show fpx p w h i = P.x.toNat + xx by omega, Nat.add_zero, Nat.add_assoc]
  · funext x y
    unfold ownP
    by_cases c : pin P x y = true
    · have k := pin_box c
      by_cases c2 : y < P.y.toNat + yy ∨ y = P.y.toNat + yy ∧ x < P.x.toNat + P.w
      · rw [if_pos ⟨c, c2⟩, if_pos ⟨c, by omega⟩]
      · rw [if_neg (fun k => c2 k.2), if_neg (by rintro ⟨_, k⟩; omega)]
    · rw [if_neg (fun k => c k.1), if_neg (fun k => c k.1)]
  · unfold fstF
    rw [if_pos (by omega), if_pos (by omega)]
theorem marks_0 {i : Nat} {P : PcP} : ownP (pcsOf p w h) i P 0 0 = ownN (pcsOf p w h) i := by
  funext x y
  unfold ownP
  rw [if_neg]
  rintro ⟨c, k⟩
  have := pin_box c
  omega
theorem marks_h {i : Nat} {P : PcP} (e : (pcsOf p w h)[i]? = some P) : ownP (pcsOf p w h) i P P.h 0 = ownN (pcsOf p w h) (i + 1) := by
  funext x y
  unfold ownP
  rw [ownN, e]
  by_cases c : pin P x y = true
  · have := pin_box c
    rw [if_pos ⟨c, by omega⟩, if_pos (by simpa using c)]
  · rw [if_neg (fun k => c k.1), if_neg (by simpa using c)]
theorem fst_0 {i : Nat} {P : PcP} (e : (pcsOf p w h)[i]? = some P) : fstF p w h i P 0 0 = -1 := by
  have fb := pin_box (pcs_first e).1
  unfold fstF
  rw [if_neg (by omega)]
theorem fst_h {i : Nat} {P : PcP} (e : (pcsOf p w h)[i]? = some P) : fstF p w h i P P.h 0 = lastF p w h (i + 1) := by
  have := (pcs_in (List.mem_of_getElem? e)).h1
  unfold fstF
  rw [if_pos (by omega), lastF, e]
theorem last_lt {i : Nat} {P : PcP} (e : (pcsOf p w h)[i]? = some P) : lastF p w h i < lastF p w h (i + 1) := by
  have e1 : lastF p w h (i + 1) = rast p w h i P := by rw [lastF, e]
  rw [e1]
  cases i with
  | zero => show (-1 : Int) < _; unfold rast; omega
  | succ i =>
    have hl := (List.getElem?_eq_some_iff.1 e).1
    have e2 := List.getElem?_eq_getElem (show i < (pcsOf p w h).length by omega)
    rw [lastF, e2]
    have k := pcs_order e2 e (Nat.lt_succ_self i)
    have l1 := (pin_lt e2 (pcs_first e2).1).1
    unfold rast
    dsimp only
    rcases k with k | ⟨k1, k2⟩
    · have := Nat.mul_le_mul_right w (Nat.succ_le_of_lt k)
      rw [Nat.succ_mul] at this; omega
    · rw [k1]; omega
theorem rast_b {i : Nat} {P : PcP} (e : (pcsOf p w h)[i]? = some P) : 0 ≤ rast p w h i P ∧ rast p w h i P < ((h * w : Nat) : Int) := by
  obtain ⟨l1, l2⟩ := pin_lt e (pcs_first e).1
  have := gix_lt l1 l2
  unfold rast; omega
/-- At the end: whose pixels are whose. -/
theorem own_end {x y : Nat} (hx : x < w) (hy : y < h) : (0 < ownN (pcsOf p w h) (pcsOf p w h).length x y ↔ p x y = true) ∧
    ∀ x' y', x' < w → y' < h → nb x y x' y' → 0 < ownN (pcsOf p w h) (pcsOf p w h).length x y → 0 < ownN (pcsOf p w h) (pcsOf p w h).length x' y' → ownN (pcsOf p w h) (pcsOf p w h).length x' y' = ownN (pcsOf p w h) (pcsOf p w h).length x y := by
  have key : ∀ {x y : Nat}, x < w → y < h → (p x y = true ∧ ∃ (i : Nat) (P : PcP), (pcsOf p w h)[i]? = some P ∧ pin P x y = true ∧ ownN (pcsOf p w h) (pcsOf p w h).length x y = i + 1) ∨ (p x y = false ∧ ownN (pcsOf p w h) (pcsOf p w h).length x y = 0) := fun {x y} hx hy => by
    cases c : p x y
    · refine .inr ⟨rfl, own_no fun i P _ e => Bool.eq_false_iff.2 fun k => ?_⟩
      rw [(pcs_cover hx hy).2 ⟨i, P, e, k⟩] at c; cases c
    · obtain ⟨i, P, e, k⟩ := (pcs_cover hx hy).1 c
      exact .inl ⟨rfl, i, P, e, k, own_in e k (List.getElem?_eq_some_iff.1 e).1⟩
  refine ⟨?_, fun x' y' hx' hy' hn h1 h2 => ?_⟩
  · rcases key hx hy with ⟨c, i, P, e, k, o⟩ | ⟨c, o⟩
    · rw [o, c]; simp
    · rw [o, c]; simp
  · rcases key hx hy with ⟨c, i, P, e, k, o⟩ | ⟨c, o⟩
    · rcases key hx' hy' with ⟨c', i', P', e', k', o'⟩ | ⟨c', o'⟩
      · have := (pcs_con (x' := x') (y' := y') e k).2 (ConX.refl.step ⟨hx', hy', c'⟩ hn)
        rw [o, o', pcs_apart e e' this k']
      · omega
    · omega
end Go.Ab
