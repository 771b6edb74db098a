/- Segments and places among a law's data. Conditions: none. -/
import Derived.Test.YtnpdnkmnnmmagaaSq
import Derived.Test.YtnpdnkmnnmmagaaK5
set_option linter.all false
namespace Go.Ab
abbrev segTD : TD := .agg [.int .i64, .int .i64, .int .i64, .sl 8 (.int .i64), .sl 1 .bool, .bool, .sl 1 (.int .u8)]
abbrev placeTD : TD := .agg [.sl 1 (.int .u8), .int .i64]
abbrev roundTD : TD := .agg [.sl 104 segTD, .sl 1 (.int .u8), .sl 1 (.int .u8)]
theorem k64 {n : Int} (h : inK .i64 n) : r64 n := by
  unfold inK at h
  rw [show IntKind.i64.min = -9223372036854775808 by decide, show IntKind.i64.max = 9223372036854775807 by decide] at h
  exact h
theorem is_bytes {b : Nat} {H : Heap} {cs : List V} {zs : List Int} (h : Is H (.sl b (.int .u8)) cs zs) : ∃ (v : V) (f : List Nat), cs = [v] ∧ Arr H v 1 f.length (u8s f) ∧ (∀ x ∈ f, x < 256) ∧ f.length * b ≤ 140737488351232 := by
  obtain ⟨v, ns, h1, h2, h3, h4⟩ := Is.nats (k := .u8) rfl h
  refine ⟨v, ns, h1, h2, fun x hx => ?_, h4⟩
  have := h3 x hx
  rw [show IntKind.u8.max = 255 by decide] at this
  omega
theorem split_bools {H : Heap} : ∀ {L : List V} {bs : List Bool}, Split (Is H .bool) L bs → L = bools bs
  | _, [], h => h
  | _, b :: bs, ⟨a, r, e, h1, h2⟩ => by rw [e, show a = [.bool b] from h1, split_bools h2]; rfl
theorem is_bools {b : Nat} {H : Heap} {cs : List V} {bs : List Bool} (h : Is H (.sl b .bool) cs bs) : ∃ v, cs = [v] ∧ Arr H v 1 bs.length (bools bs) ∧ bs.length * b ≤ 140737488351232 := by
  obtain ⟨v, L, h1, h2, h3, h4⟩ := h
  exact ⟨v, h1, by rw [← split_bools h3]; exact h2, h4⟩
structure PlO where
  v : V
  f : List Nat
  p : Int
def PlO.cs (o : PlO) : List V := [o.v, .int .i64 o.p]
structure PlOk (H : Heap) (o : PlO) : Prop where
  arr : Arr H o.v 1 o.f.length (u8s o.f)
  lt : ∀ x ∈ o.f, x < 256
  len : o.f.length ≤ 140737488351232
  p : r64 o.p
theorem is_place {H : Heap} {cs : List V} {x : TD.Ty placeTD} (h : Is H placeTD cs x) : ∃ o : PlO, cs = o.cs ∧ PlOk H o := by
  obtain ⟨a, r, e, h1, a2, r2, e2, ⟨h2, h2'⟩, h3⟩ := h
  obtain ⟨v, f, k1, k2, k3, k4⟩ := is_bytes h1
  exact ⟨⟨v, f, x.2.1⟩, by rw [e, e2, k1, h2, show r2 = [] from h3]; rfl, k2, k3, by dsimp only; omega, k64 h2'⟩
def plCells (l : List PlO) : List V := l.flatMap PlO.cs
theorem plCells_at : ∀ {l : List PlO} {i : Nat} (hi : i < l.length), ((plCells l).drop (i * 2)).take 2 = l[i].cs
  | o :: l, 0, _ => by simp [plCells, PlO.cs]
  | o :: l, i + 1, hi => by
    have := plCells_at (l := l) (i := i) (by simpa using hi)
    rw [show (i + 1) * 2 = 2 + i * 2 by omega, ← List.drop_drop]
    simpa [plCells, PlO.cs] using this
theorem is_places {b : Nat} {H : Heap} {cs : List V} {xs : TD.Ty (.sl b placeTD)} (h : Is H (.sl b placeTD) cs xs) : ∃ (v : V) (l : List PlO), cs = [v] ∧ Arr H v 2 l.length (plCells l) ∧ (∀ o ∈ l, PlOk H o) ∧ l.length * b ≤ 140737488351232 := by
  obtain ⟨v, L, h1, h2, h3, h4⟩ := h
  have key : ∀ (xs : List (TD.Ty placeTD)) (L : List V), Split (Is H placeTD) L xs → ∃ l : List PlO, L = plCells l ∧ l.length = List.length xs ∧ ∀ o ∈ l, PlOk H o := by
    intro xs
    induction xs with
    | nil => exact fun L h => ⟨[], h, rfl, fun _ h => nomatch h⟩
    | cons x xs ih =>
      rintro L ⟨a, r, e, k1, k2⟩
      obtain ⟨o, k3, k4⟩ := is_place k1
      obtain ⟨l, k5, k6, k7⟩ := ih r k2
      refine ⟨o :: l, by rw [e, k3, k5]; rfl, by rw [List.length_cons, k6]; rfl, fun q hq => ?_⟩
      rcases List.mem_cons.1 hq with rfl | hq
      · exact k4
      · exact k7 q hq
  obtain ⟨l, k1, k2, k3⟩ := key xs L h3
  exact ⟨v, l, h1, by rw [k2, ← k1]; exact h2, k3, by rw [k2]; exact h4⟩
structure SgO where
  s : Sg
  v1 : V
  v2 : V
  v3 : V
def SgO.cs (o : SgO) : List V := o.s.cells o.v1 o.v2 o.v3
def SgOk (H : Heap) (o : SgO) : Prop := SgR H o.v1 o.v2 o.v3 o.s
theorem is_seg {H : Heap} {cs : List V} {x : TD.Ty segTD} (h : Is H segTD cs x) : ∃ o : SgO, cs = o.cs ∧ SgOk H o := by
  obtain ⟨a, r, e, ⟨h1, g1⟩, a2, r2, e2, ⟨h2, g2⟩, a3, r3, e3, ⟨h3, g3⟩, a4, r4, e4, h4, a5, r5, e5, h5, a6, r6, e6, h6, a7, r7, e7, h7, h8⟩ := h
  obtain ⟨v1, k1, k2, k3, k4⟩ := Is.ints h4
  obtain ⟨v2, l1, l2, l3⟩ := is_bools h5
  obtain ⟨v3, f, m1, m2, m3, m4⟩ := is_bytes h7
  refine ⟨⟨⟨x.1, x.2.1, x.2.2.1, x.2.2.2.1, x.2.2.2.2.1, x.2.2.2.2.2.1, f⟩, v1, v2, v3⟩, ?_, ⟨k2, l2, m2, ⟨k64 g1, k64 g2, k64 g3, fun n hn => k64 (k3 n hn), m3, ?_, ?_, ?_⟩⟩⟩
  · rw [e, e2, e3, e4, e5, e6, e7, h1, h2, h3, k1, l1, m1, show a6 = [.bool x.2.2.2.2.2.1] from h6, show r7 = [] from h8]; rfl
  · dsimp only; omega
  · dsimp only; omega
  · dsimp only; omega
def sgCells (l : List SgO) : List V := l.flatMap SgO.cs
theorem sgCells_at : ∀ {l : List SgO} {i : Nat} (hi : i < l.length), ((sgCells l).drop (i * 7)).take 7 = l[i].cs
  | o :: l, 0, _ => by simp [sgCells, SgO.cs, Sg.cells]
  | o :: l, i + 1, hi => by
    have := sgCells_at (l := l) (i := i) (by simpa using hi)
    rw [show (i + 1) * 7 = 7 + i * 7 by omega, ← List.drop_drop]
    simpa [sgCells, SgO.cs, Sg.cells] using this
theorem is_segs {b : Nat} {H : Heap} {cs : List V} {xs : TD.Ty (.sl b segTD)} (h : Is H (.sl b segTD) cs xs) : ∃ (v : V) (l : List SgO), cs = [v] ∧ Arr H v 7 l.length (sgCells l) ∧ (∀ o ∈ l, SgOk H o) ∧ l.length * b ≤ 140737488351232 := by
  obtain ⟨v, L, h1, h2, h3, h4⟩ := h
  have key : ∀ (xs : List (TD.Ty segTD)) (L : List V), Split (Is H segTD) L xs → ∃ l : List SgO, L = sgCells l ∧ l.length = List.length xs ∧ ∀ o ∈ l, SgOk H o := by
    intro xs
    induction xs with
    | nil => exact fun L h => ⟨[], h, rfl, fun _ h => nomatch h⟩
    | cons x xs ih =>
      rintro L ⟨a, r, e, k1, k2⟩
      obtain ⟨o, k3, k4⟩ := is_seg k1
      obtain ⟨l, k5, k6, k7⟩ := ih r k2
      refine ⟨o :: l, by rw [e, k3, k5]; rfl, by rw [List.length_cons, k6]; rfl, fun q hq => ?_⟩
      rcases List.mem_cons.1 hq with rfl | hq
      · exact k4
      · exact k7 q hq
  obtain ⟨l, k1, k2, k3⟩ := key xs L h3
  exact ⟨v, l, h1, by rw [k2, ← k1]; exact h2, k3, by rw [k2]; exact h4⟩
theorem SgOk.same {H H' : Heap} {o : SgO} (h : SgOk H o) (k : Same (fun _ => False) H H') : SgOk H' o := SgR.same h k
end Go.Ab
