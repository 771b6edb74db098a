/- Bitmaps among a law's data. Conditions: none. -/
import Derived.Test.YtdkgdneiilnppaaCs
import Derived.Test.YtdkgdneiilnppaaBy
set_option linter.all false
namespace Go.Ab

abbrev bmTD : TD := .agg [.int .i64, .int .i64, .sl 8 (.int .u64)]
abbrev n8TD : TD := .arr 8 (.int .i64)
abbrev blitTD : TD := .agg [bmTD, bmTD, n8TD]
structure BmO where
  w : Int
  h : Int
  v : V
  ws : List Nat
def BmO.cs (o : BmO) : List V := [.int .i64 o.w, .int .i64 o.h, o.v]
structure BmOk (H : Heap) (o : BmO) : Prop where
  w : i64r o.w
  h : i64r o.h
  arr : Arr H o.v 1 o.ws.length (u64s o.ws)
  lt : ∀ n ∈ o.ws, n < 18446744073709551616
  len : o.ws.length ≤ 17592186044415
theorem BmOk.same {H H' : Heap} {o : BmO} (k : BmOk H o) (s : Same (fun _ => False) H H') : BmOk H' o := ⟨k.w, k.h, k.arr.same s fun _ _ h => h, k.lt, k.len⟩
theorem is_bm {H : Heap} {cs : List V} {x : TD.Ty bmTD} (h : Is H bmTD cs x) : ∃ o : BmO, cs = o.cs ∧ BmOk H o := by
  obtain ⟨a, r, e, ⟨h1, h2⟩, a2, r2, e2, ⟨h3, h4⟩, a3, r3, e3, h5, h6⟩ := h
  obtain ⟨v, ws, k1, k2, k3, k4⟩ := Is.nats (k := .u64) rfl h5
  refine ⟨⟨x.1, x.2.1, v, ws⟩, ?_, h2, h4, k2, fun n hn => ?_, by dsimp only; omega⟩
  · rw [e, e2, e3, h1, h3, k1, show r3 = [] from h6]; rfl
  · have := k3 n hn
    rw [show IntKind.u64.max = 18446744073709551615 by decide] at this
    omega
theorem eight {Pz : Int → Prop} : ∀ (xs : List Int), xs.length = 8 → (∀ z ∈ xs, Pz z) → ∃ a b c d e f g i : Int, xs = [a, b, c, d, e, f, g, i] ∧ Pz a ∧ Pz b ∧ Pz c ∧ Pz d ∧ Pz e ∧ Pz f ∧ Pz g ∧ Pz i
  | [a, b, c, d, e, f, g, i], _, h => ⟨a, b, c, d, e, f, g, i, rfl, h a (by simp), h b (by simp), h c (by simp), h d (by simp), h e (by simp), h f (by simp), h g (by simp), h i (by simp)⟩
theorem is_n8 {H : Heap} {cs : List V} {x : TD.Ty n8TD} (h : Is H n8TD cs x) : ∃ a b c d e f g i : Int, cs = [.int .i64 a, .int .i64 b, .int .i64 c, .int .i64 d, .int .i64 e, .int .i64 f, .int .i64 g, .int .i64 i] ∧
    i64r a ∧ i64r b ∧ i64r c ∧ i64r d ∧ i64r e ∧ i64r f ∧ i64r g ∧ i64r i := by
  obtain ⟨h1, h2⟩ := h
  obtain ⟨h3, h4⟩ := split_ints h1
  obtain ⟨a, b, c, d, e, f, g, i, k1, k2⟩ := eight (Pz := i64r) x h2 h4
  exact ⟨a, b, c, d, e, f, g, i, by rw [h3, k1]; rfl, k2⟩
theorem is_blit {H : Heap} {cs : List V} {x : TD.Ty blitTD} (h : Is H blitTD cs x) : ∃ (d s : BmO) (n1 n2 n3 n4 n5 n6 n7 n8 : Int), cs = d.cs ++ s.cs ++ [.int .i64 n1, .int .i64 n2, .int .i64 n3, .int .i64 n4, .int .i64 n5, .int .i64 n6, .int .i64 n7, .int .i64 n8] ∧ BmOk H d ∧ BmOk H s ∧
    i64r n1 ∧ i64r n2 ∧ i64r n3 ∧ i64r n4 ∧ i64r n5 ∧ i64r n6 ∧ i64r n7 ∧ i64r n8 := by
  obtain ⟨a, r, e, h1, a2, r2, e2, h2, a3, r3, e3, h3, h4⟩ := h
  obtain ⟨d, k1, k2⟩ := is_bm h1
  obtain ⟨s, k3, k4⟩ := is_bm h2
  obtain ⟨n1, n2, n3, n4, n5, n6, n7, n8, k5, k6⟩ := is_n8 h3
  exact ⟨d, s, n1, n2, n3, n4, n5, n6, n7, n8, by rw [e, e2, e3, k1, k3, k5, show r3 = [] from h4]; simp, k2, k4, k6⟩
def bmCells (l : List BmO) : List V := l.flatMap BmO.cs
theorem bmCells_len : ∀ l, (bmCells l).length = l.length * 3
  | [] => rfl
  | o :: l => by rw [bmCells, List.flatMap_cons, List.length_append, show (l.flatMap BmO.cs).length = _ from bmCells_len l]; simp [BmO.cs]; omega
theorem bmCells_at : ∀ {l : List BmO} {i : Nat} (hi : i < l.length), ((bmCells l).drop (i * 3)).take 3 = l[i].cs
  | o :: l, 0, _ => by simp [bmCells, BmO.cs]
  | o :: l, i + 1, hi => by
    have := bmCells_at (l := l) (i := i) (by simpa using hi)
    rw [show (i + 1) * 3 = 3 + i * 3 by omega, ← List.drop_drop]
    simpa [bmCells, BmO.cs] using this
theorem split_bms {H : Heap} : ∀ {xs : List (TD.Ty bmTD)} {L : List V}, Split (Is H bmTD) L xs → ∃ l : List BmO, L = bmCells l ∧ l.length = List.length xs ∧ ∀ o ∈ l, BmOk H o
  | [], _, h => ⟨[], h, rfl, fun _ h => by cases h⟩
  | x :: xs, L, ⟨a, b, e, h1, h2⟩ => by
    obtain ⟨l, h3, h4, h5⟩ := split_bms h2
    obtain ⟨o, k1, k2⟩ := is_bm h1
    refine ⟨o :: l, by rw [e, h3, k1]; rfl, by simp [h4], fun q hq => ?_⟩
    rcases List.mem_cons.1 hq with rfl | hq
    · exact k2
    · exact h5 q hq
theorem is_bms {H : Heap} {cs : List V} {x : TD.Ty (.sl 40 bmTD)} (h : Is H (.sl 40 bmTD) cs x) :
    ∃ (v : V) (l : List BmO), cs = [v] ∧ Arr H v 3 l.length (bmCells l) ∧ (∀ o ∈ l, BmOk H o) ∧ l.length ≤ 140737488351232 := by
  obtain ⟨v, L, h1, h2, h3, h4⟩ := h
  obtain ⟨l, h5, h6, h7⟩ := split_bms h3
  refine ⟨v, l, h1, ?_, h7, by omega⟩
  rw [h6, ← h5]; exact h2
end Go.Ab
