/- A law's bitmaps, handed to the functions. Conditions: none. -/
import Derived.Test.YtdkgdneiilnppaaCt
set_option linter.all false
namespace Go.Ab

theorem HsF.bas {H0 H : Heap} : ∀ {R : List As} {G : Nat → Prop}, HsF H G R → Bas H0 ∈ R → Same (fun _ => False) H0 H
  | A :: R, G, ⟨F, h1, _, h3⟩, hm => by
    rcases List.mem_cons.1 hm with rfl | hm
    · exact h1.2
    · exact h3.bas hm
theorem Hs.bas {H0 H : Heap} {R : List As} (h : Hs H R) (hm : Bas H0 ∈ R) : Same (fun _ => False) H0 H := HsF.bas h hm

instance {w h : Nat} {p q : Nat → Nat → Bool} : Decidable (∀ x y, x < w → y < h → p x y = q x y) := decidable_of_iff (Wds w h p = Wds w h q) Wds_eq
def BmO.wn (o : BmO) : Nat := o.w.toNat
def BmO.hn (o : BmO) : Nat := o.h.toNat
def BmO.px (o : BmO) : Nat → Nat → Bool := pixOf o.wn o.ws
structure BmM (o : BmO) : Prop where
  w : o.w = o.wn
  h : o.h = o.hn
  w1 : 1 ≤ o.wn
  h1 : 1 ≤ o.hn
  area : o.wn * o.hn ≤ 1048576
  words : Wds o.wn o.hn o.px = o.ws
  len : o.ws.length = o.hn * wds o.wn
theorem bmM_of {H : Heap} {o : BmO} (k : BmOk H o) (m : mayB o.w o.h o.ws) : BmM o := by
  obtain ⟨⟨m1, m2, m3⟩, m4, m5⟩ := m
  have e1 : o.w = (o.wn : Int) := by unfold BmO.wn; omega
  have e2 : o.h = (o.hn : Int) := by unfold BmO.hn; omega
  have m3 : o.wn * o.hn ≤ 1048576 := by rw [e1, e2, ← Int.natCast_mul] at m3; omega
  exact ⟨e1, e2, by omega, by omega, m3, Wds_pix (by unfold BmO.wn; omega) m4 m5 k.lt, m4⟩

theorem tmodP {n : Int} {k : Nat} (hk : 0 < k) : -(k : Int) < n.tmod k ∧ n.tmod k < k := by
  have h1 : 0 ≤ n % k := Int.emod_nonneg _ (by omega)
  have h2 : n % k < k := Int.emod_lt_of_pos _ (by omega)
  have : n.tmod k = if 0 ≤ n ∨ (k : Int) ∣ n then n % k else n % k - k := by rw [Int.tmod_eq_emod]; simp only [Int.natAbs_natCast]; split <;> simp
  rw [this]
  split
  · omega
  · rename_i h
    have h3 : n % k ≠ 0 := fun e => h (Or.inr (Int.dvd_of_emod_eq_zero e))
    omega
section
variable {P : Prog} {H0 H : Heap} {R : List As} {Q : Out → Heap → Prop} {o : BmO}

theorem mayO (hq : HasL2 P) (k : BmOk H0 o) (hs : Hs H R) (hb : Bas H0 ∈ R) (hQ : ∀ b H', (b = true ↔ mayB o.w o.h o.ws) → Hs H' R → Q (.ret (.bool b)) H') : Call P 76 [.agg [.int .i64 o.w, .int .i64 o.h, o.v]] H Q :=
  may_ct hq.rz hs (k.arr.same (hs.bas hb) fun _ _ h => h) k.lt k.w k.h fun b H' h1 h2 _ => hQ b H' h1 h2
theorem fromO (hq : HasL2 P) (k : BmOk H0 o) (m : mayB o.w o.h o.ws) (hs : Hs H R) (hb : Bas H0 ∈ R) (hQ : ∀ m H', Hs H' (MapA m o.wn o.hn o.px :: R) → Q (.ret (.tup [.ptr (some (m, 0)), .int .i64 0])) H') :
    Call P 44 [.agg [.int .i64 o.w, .int .i64 o.h, o.v]] H Q :=
  from_ct hq.bm hs (fun s => (k.arr.same (hs.bas hb) fun _ _ h => h).same s fun _ _ h => h) k.lt k.w k.h (fun h => absurd m h) fun _ m' H' h' _ => hQ m' H' h'
theorem sameO (hq : HasL2 P) (k : BmOk H0 o) (mm : BmM o) {m : Nat} {p : Nat → Nat → Bool} (hs : Hs H (MapA m o.wn o.hn p :: R)) (hb : Bas H0 ∈ R) (hQ : ∀ H', Hs H' (MapA m o.wn o.hn p :: R) → Q (.ret (.bool (decide (∀ x y, x < o.wn → y < o.hn → p x y = o.px x y)))) H') :
    Call P 101 [.ptr (some (m, 0)), .agg [.int .i64 o.w, .int .i64 o.h, o.v]] H Q := by
  refine same_ct hq hs (fun H' h' => k.arr.same (h'.bas hb) fun _ _ h => h) fun H' h' => ?_
  have e : ((o.wn : Int) = o.w ∧ (o.hn : Int) = o.h ∧ Wds o.wn o.hn p = o.ws) ↔ ∀ x y, x < o.wn → y < o.hn → p x y = o.px x y := by
    constructor
    · rintro ⟨_, _, e⟩
      rw [← mm.words] at e
      exact Wds_eq.1 e
    · intro e
      exact ⟨mm.w.symm, mm.h.symm, by rw [← mm.words]; exact Wds_eq.2 e⟩
  rw [decide_eq_decide.2 e]
  exact hQ H' h'
theorem getO (hq : HasL2 P) (k : BmOk H0 o) (mm : BmM o) (hs : Hs H R) (hb : Bas H0 ∈ R) {x y : Int} (hQ : ∀ H', Hs H' R → Q (.ret (.int .i64 (getV o.wn o.hn o.px x y : Nat))) H') : Call P 78 [.agg [.int .i64 o.w, .int .i64 o.h, o.v], .int .i64 x, .int .i64 y] H Q := by
  have z4 := Nat.le_mul_of_pos_right o.wn (show 0 < o.hn by have := mm.h1; omega)
  have := mm.area
  rw [mm.w, mm.h]
  exact getR_ct hq.rz hs (k.arr.same (hs.bas hb) fun _ _ h => h) mm.len k.lt ⟨mm.w1, by omega, wds_le mm.area mm.w1⟩ fun H' h' _ => hQ H' h'
theorem small2 (hq : HasL2 P) {o2 : BmO} (k : BmOk H0 o) (k2 : BmOk H0 o2) {b c : Nat} (hc : H.get b = .cells [.int .i64 o.w, .int .i64 o.h, o.v, .int .i64 o2.w, .int .i64 o2.h, o2.v] true) (hQ : Q (.ret (.bool (decide (64 * o.ws.length + 64 + (64 * o2.ws.length + 64) ≤ 60000)))) H) : Call P 98 [.sl (some (b, 0)) 2 c 3, .int .i64 60000] H Q := by
  obtain ⟨a1, c1, e1, hv⟩ := k.arr.shape
  obtain ⟨a2, c2, e2, hv2⟩ := k2.arr.shape
  refine small_ct hq (b := b) (c := c) (lens := [o.ws.length, o2.ws.length]) (most := 60000) (fun i hi => ?_) (fun i hi => ?_) (by simp) (by omega) ?_
  · have hi : i < 2 := hi
    rcases (show i = 0 ∨ i = 1 by omega) with rfl | rfl
    · exact ⟨a1, c1, e1, by rw [rd_s hc]; simp [hv]⟩
    · exact ⟨a2, c2, e2, by rw [rd_s hc]; simp [hv2]⟩
  · have hi : i < 2 := hi
    have := k.len
    have := k2.len
    rcases (show i = 0 ∨ i = 1 by omega) with rfl | rfl
    · show o.ws.length ≤ _; omega
    · show o2.ws.length ≤ _; omega
  · have e : bigN [o.ws.length, o2.ws.length] [o.ws.length, o2.ws.length].length = 64 * o.ws.length + 64 + (64 * o2.ws.length + 64) := by simp [bigN, sumN]
    rw [e]; exact hQ
/-- Small of one bitmap that lies in a block. -/
theorem smallO (hq : HasL2 P) (k : BmOk H0 o) {b c : Nat} (hc : ∃ l, H.get b = .cells ([.int .i64 o.w, .int .i64 o.h, o.v] ++ l) true) (hQ : Q (.ret (.bool (decide (64 * o.ws.length + 64 ≤ 60000)))) H) : Call P 98 [.sl (some (b, 0)) 1 c 3, .int .i64 60000] H Q := by
  obtain ⟨a1, c1, e1, hv⟩ := k.arr.shape
  obtain ⟨l, hc⟩ := hc
  refine small_ct hq (b := b) (c := c) (lens := [o.ws.length]) (most := 60000) (fun i hi => ?_) (fun i hi => ?_) (by simp) (by omega) ?_
  · obtain rfl : i = 0 := by simpa using hi
    exact ⟨a1, c1, e1, by rw [rd_s hc]; simp [hv]⟩
  · obtain rfl : i = 0 := by simpa using hi
    have := k.len
    show o.ws.length ≤ _
    omega
  · have e : bigN [o.ws.length] [o.ws.length].length = 64 * o.ws.length + 64 := by simp [bigN, sumN]
    rw [e]; exact hQ
end
end Go.Ab
