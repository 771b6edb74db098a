/- Parts of a proof over an abstract machine: Ae, Af, Ag, Ah, Ai, Ap. Conditions: none. -/
import Derived.ChangeKeysEq
import Derived.MapKept
import Derived.Maps.RangeRun
import Derived.Lib.ConvBytes
import Derived.Laws.BytesString
import Derived.Test.YteihedfehcelhaaGreatFf1
import Derived.Test.YteihedfehcelhaaGreatFf2
set_option linter.all false
namespace Go.Ab
variable {L : Lk} {ι : Im} {H : Heap} {w : World} {P : Program}
theorem add_at (c q i : Nat) : Addr.add ⟨c, q, none⟩ i = ⟨c, q + i, none⟩ := by
  unfold Addr.add; split
  · rename_i h; subst h; rfl
  · rfl

theorem cell_at {arr : Array Value} {ty : TypeId} {fz : Nat × Nat} {c : Nat} (h : w.heap[c]? = some (.cells arr ty fz)) (o : Nat) : w.cell? ⟨c, o, none⟩ = arr[o]? := by
  simp [World.cell?, h]

theorem frozen_at {arr : Array Value} {ty : TypeId} {fz : Nat × Nat} {c : Nat} (h : w.heap[c]? = some (.cells arr ty fz)) (o : Nat) (hz : fz.2 ≤ fz.1 ∨ o < fz.1) : w.frozen? ⟨c, o, none⟩ = false := by
  simp only [World.frozen?, h]; simp; omega

theorem run_load_some {a : Addr} {v : Value} (h : w.cell? a = some v) : (load a).run P w = .ok v w := by simp [h]

theorem run_loadCellsFrom (c q : Nat) : ∀ (n i : Nat) (acc : Array Value) (l : List Value), l.length = n → (∀ j v, l[j]? = some v → w.cell? ⟨c, q + (i + j), none⟩ = some v) →
    (loadCellsFrom ⟨c, q, none⟩ i n acc).run P w = .ok (acc ++ l.toArray) w
  | 0, i, acc, l, hl, _ => by
    have : l = [] := List.eq_nil_of_length_eq_zero hl
    subst this
    simp [loadCellsFrom]
  | n + 1, i, acc, [], hl, _ => by simp at hl
  | n + 1, i, acc, x :: l, hl, h => by
    have h0 := h 0 x rfl
    simp only [loadCellsFrom, Sem.run_bind, add_at]
    rw [run_load_some (by simpa using h0)]
    simp only [Result.andThen_ok]
    rw [run_loadCellsFrom c q n (i + 1) (acc.push x) l (by simpa using hl) (fun j v hv => by
      have := h (j + 1) v (by simpa using hv)
      rw [show q + (i + (j + 1)) = q + (i + 1 + j) by omega] at this; exact this)]
    simp

theorem run_loadCells (c q n : Nat) (l : List Value) (hl : l.length = n) (h : ∀ (j : Nat) (v : Value), l[j]? = some v → w.cell? ⟨c, q + j, none⟩ = some v) :
    (loadCells ⟨c, q, none⟩ n).run P w = .ok l.toArray w := by
  unfold loadCells
  rw [run_loadCellsFrom c q n 0 #[] l hl (by simpa using h)]
  simp

/-- A list written over a row. -/
def stA (arr : Array Value) (q : Nat) : List Value → Array Value
  | [] => arr
  | v :: r => stA (arr.setIfInBounds q v) (q + 1) r

theorem stA_size : ∀ (l : List Value) (arr : Array Value) (q : Nat), (stA arr q l).size = arr.size
  | [], _, _ => rfl
  | _ :: l, _, _ => by rw [stA, stA_size l]; simp

theorem stA_get : ∀ (l : List Value) (arr : Array Value) (q j : Nat), q + l.length ≤ arr.size → (stA arr q l)[j]? = if q ≤ j ∧ j < q + l.length then l[j - q]? else arr[j]?
  | [], arr, q, j, _ => by rw [stA, if_neg (by simp)]
  | v :: l, arr, q, j, h => by
    rw [stA, stA_get l _ _ _ (by simp at h ⊢; omega)]
    simp only [List.length_cons] at h ⊢
    by_cases h1 : q = j
    · subst h1
      rw [if_neg (by omega), if_pos (by omega)]
      have : q < arr.size := by omega
      simp [this]
    · by_cases h2 : q + 1 ≤ j ∧ j < q + 1 + l.length
      · rw [if_pos h2, if_pos (by omega), show j - q = (j - (q + 1)) + 1 by omega, List.getElem?_cons_succ]
      · rw [if_neg h2, if_neg (by omega), Array.getElem?_setIfInBounds_ne h1]

def stW (w : World) (c q : Nat) : List Value → World
  | [] => w
  | v :: r => stW (w.setCell ⟨c, q, none⟩ v) c (q + 1) r

theorem setCell_heap {arr : Array Value} {ty : TypeId} {fz : Nat × Nat} {c : Nat} (h : w.heap[c]? = some (.cells arr ty fz)) (q : Nat) (v : Value) :
    (w.setCell ⟨c, q, none⟩ v).heap[c]? = some (.cells (arr.setIfInBounds q v) ty fz) := by
  simp [World.setCell, Array.getElem?_modify, h]

theorem setCell_other {c k : Nat} (q : Nat) (v : Value) (hk : k ≠ c) : (w.setCell ⟨c, q, none⟩ v).heap[k]? = w.heap[k]? := by
  simp only [World.setCell, Array.getElem?_modify]; rw [if_neg (by omega)]

theorem stW_heap : ∀ (l : List Value) (w : World) {arr : Array Value} {ty : TypeId} {fz : Nat × Nat} {c : Nat} (q : Nat), w.heap[c]? = some (.cells arr ty fz) →
    (stW w c q l).heap[c]? = some (.cells (stA arr q l) ty fz)
  | [], _, _, _, _, _, _, h => h
  | v :: l, w, _, _, _, _, q, h => stW_heap l _ (q + 1) (setCell_heap h q v)

theorem stW_other : ∀ (l : List Value) (w : World) {c k : Nat} (q : Nat), k ≠ c → (stW w c q l).heap[k]? = w.heap[k]?
  | [], _, _, _, _, _ => rfl
  | v :: l, w, _, _, q, hk => by rw [stW, stW_other l _ (q + 1) hk, setCell_other q v hk]

theorem stW_same : ∀ (l : List Value) (w : World) (c q : Nat), (stW w c q l).heap.size = w.heap.size ∧ (stW w c q l).os = w.os ∧ (stW w c q l).tape = w.tape ∧ (stW w c q l).output = w.output
  | [], _, _, _ => ⟨rfl, rfl, rfl, rfl⟩
  | v :: l, w, c, q => by
    obtain ⟨h1, h2, h3, h4⟩ := stW_same l (w.setCell ⟨c, q, none⟩ v) c (q + 1)
    exact ⟨h1.trans (by simp [World.setCell]), h2, h3, h4⟩

theorem run_storeCells (c q : Nat) : ∀ (l : List Value) (w : World) {arr : Array Value} {ty : TypeId} {fz : Nat × Nat} (i : Nat), w.heap[c]? = some (.cells arr ty fz) → (fz.2 ≤ fz.1 ∨ arr.size ≤ fz.1) →
    q + i + l.length ≤ arr.size → (∀ v ∈ l, v.oneCell' = true) → (storeCells ⟨c, q, none⟩ l i).run P w = .ok () (stW w c (q + i) l)
  | [], w, _, _, _, i, _, _, _, _ => rfl
  | v :: l, w, arr, ty, fz, i, h, hz, hl, ho => by
    simp only [List.length_cons] at hl
    have hc : w.cell? ⟨c, q + i, none⟩ = some arr[q + i] := by rw [cell_at h]; simp
    rw [storeCells, Sem.run_bind, add_at, run_store P w _ v .plain (ho v (by simp)), hc]
    simp only [frozen_at h (q + i) (hz.imp id (by omega)), Bool.false_eq_true, if_false, Result.andThen_ok]
    rw [run_storeCells c q l _ (i + 1) (setCell_heap h (q + i) v) (by simpa using hz) (by simp; omega) (fun x hx => ho x (by simp [hx]))]
    rfl

theorem Sim.row {l : List V} {wr : Bool} {b c p z : Nat} (s : Sim L ι H w) (hb : ι b = some (c, p, z)) (hg : H.get b = .cells l wr) :
    ∃ arr ty fz, w.heap[c]? = some (.cells arr ty fz) ∧ arr.size = z ∧ p + l.length ≤ z ∧ (wr = true → fz.2 = fz.1 ∨ z ≤ fz.1) ∧ ∀ (i : Nat) (v : V), l[i]? = some v → ∃ v', arr[p + i]? = some v' ∧ Rel L ι v v' := by
  have := s.ok b c p z hb; rw [hg] at this; exact this

theorem Sim.load1 {v : V} {b c p z o : Nat} (s : Sim L ι H w) (hb : ι b = some (c, p, z)) (h : rd H none b o = some v) : ∃ v', w.cell? ⟨c, p + o, none⟩ = some v' ∧ Rel L ι v v' := by
  unfold rd at h
  split at h
  · rename_i l wr hg
    obtain ⟨arr, ty, fz, e, _, _, _, h5⟩ := s.row hb hg
    obtain ⟨v', e1, e2⟩ := h5 o v h
    exact ⟨v', by rw [cell_at e]; exact e1, e2⟩
  · cases h

/-- What stands in the model's block where the abstract one has a piece. -/
theorem Sim.piece {l cs : List V} {wr : Bool} {b c p z o n : Nat} (s : Sim L ι H w) (hb : ι b = some (c, p, z)) (hg : H.get b = .cells l wr) (h : piece l o n = some cs) :
    ∃ ws : List Value, RelL L ι cs ws ∧ ws.length = n ∧ ∀ (j : Nat) (v : Value), ws[j]? = some v → w.cell? ⟨c, p + o + j, none⟩ = some v := by
  unfold Ab.piece at h
  split at h
  · rename_i hlen
    cases h
    obtain ⟨arr, ty, fz, e, e2, e3, _, h5⟩ := s.row hb hg
    have hget : ∀ (j : Nat), j < n → ((List.drop (p + o) arr.toList).take n)[j]? = arr[p + o + j]? := fun j hj => by
      rw [List.getElem?_take, if_pos hj, List.getElem?_drop, Array.getElem?_toList]
    have hl : ((List.drop (p + o) arr.toList).take n).length = n := by simp; omega
    refine ⟨(List.drop (p + o) arr.toList).take n, RelL.of_get (by rw [hl]; simp; omega) (fun i x hx => ?_), hl, fun j v hv => ?_⟩
    · have hi : i < n := by
        rcases Nat.lt_or_ge i n with h | h
        · exact h
        · rw [List.getElem?_take, if_neg (by omega)] at hx; cases hx
      rw [List.getElem?_take, if_pos hi, List.getElem?_drop] at hx
      obtain ⟨v', e1, e2⟩ := h5 _ _ hx
      exact ⟨v', by rw [hget i hi, Nat.add_assoc]; exact e1, e2⟩
    · have hj : j < n := by
        rcases Nat.lt_or_ge j n with h | h
        · exact h
        · rw [List.getElem?_eq_none (by omega)] at hv; cases hv
      rw [cell_at e, ← hget j hj]; exact hv
  · cases h

theorem Sim.loadN {v : V} {b c p z o n : Nat} (s : Sim L ι H w) (hb : ι b = some (c, p, z)) (h : rd H (some n) b o = some v) :
    ∃ arr : Array Value, (loadCells ⟨c, p + o, none⟩ n).run P w = .ok arr w ∧ Rel L ι v (.agg arr) := by
  unfold rd at h
  split at h
  · rename_i l wr hg
    simp only [Option.map_eq_some_iff] at h
    obtain ⟨cs, hp, rfl⟩ := h
    obtain ⟨ws, h1, h2, h3⟩ := s.piece hb hg hp
    exact ⟨ws.toArray, run_loadCells c (p + o) n ws h2 h3, ws.toArray, rfl, by simpa using h1⟩
  · cases h

theorem over_get (l vs : List V) (o j : Nat) (h : o + vs.length ≤ l.length) : (over l o vs)[j]? = if o ≤ j ∧ j < o + vs.length then vs[j - o]? else l[j]? := by
  unfold over
  by_cases h1 : j < o
  · rw [if_neg (by omega), List.append_assoc, List.getElem?_append_left (by simp; omega), List.getElem?_take, if_pos h1]
  · by_cases h2 : j < o + vs.length
    · rw [if_pos (by omega), List.getElem?_append_left (by simp; omega), List.getElem?_append_right (by simp; omega)]
      congr 1; simp; omega
    · rw [if_neg (by omega), List.getElem?_append_right (by simp; omega), List.getElem?_drop]
      congr 1; simp; omega

theorem over_length (l vs : List V) (o : Nat) (h : o + vs.length ≤ l.length) : (over l o vs).length = l.length := by
  unfold over; simp; omega

theorem not_ro {l : List V} {b : Nat} (h : H.get b = .cells l true) : ¬ RO H b := fun ⟨l', e⟩ => by rw [h] at e; cases e

theorem Sim.put {l vs : List V} {ws : List Value} {b c p z o : Nat} (s : Sim L ι H w) (hb : ι b = some (c, p, z)) (hg : H.get b = .cells l true) (hl : o + vs.length ≤ l.length)
    (hr : RelL L ι vs ws) : Sim L ι (H.put b (.cells (over l o vs) true)) (stW w c (p + o) ws) ∧ Ext ι H w ι (H.put b (.cells (over l o vs) true)) (stW w c (p + o) ws) := by
  obtain ⟨arr, ty, fz, e, e2, e3, e4, h5⟩ := s.row hb hg
  obtain ⟨w1, w2, w3, w4⟩ := stW_same ws w c (p + o)
  have hlen := hr.length
  have hlive : H.get b ≠ .dead := by rw [hg]; intro h; cases h
  have hget : ∀ x, (H.put b (.cells (over l o vs) true)).get x = if x = b then .cells (over l o vs) true else H.get x := fun _ => rfl
  refine ⟨⟨fun x hx => by
      have : x ≠ b := fun hxb => by subst hxb; rw [s.nx x hx] at hb; cases hb
      rw [hget, if_neg this]; exact s.dn x hx, fun x hx => s.nx x hx, fun x c' p' z' hx => by rw [w1]; exact s.lt x c' p' z' hx, fun x c' p' z' hx => ?_, fun x y c' p1 z1 p2 z2 hx hy lx ly lr => ?_⟩,
    ⟨ILe.refl _, by rw [w1]; exact Nat.le_refl _, Nat.le_refl _, fun x lx _ hx => ?_, (fun x _ _ _ h1 h2 => by rw [h1] at h2; cases h2), fun k hk hro => ?_, fun _ _ h => h, w2, w3, w4⟩⟩
  · rw [hget]
    by_cases hxb : x = b
    · subst hxb
      rw [hb] at hx; cases hx
      rw [if_pos rfl]
      refine ⟨stA arr (p + o) ws, ty, fz, stW_heap ws w (p + o) e, by rw [stA_size, e2], by rw [over_length l vs o hl]; exact e3, e4, fun i v hv => ?_⟩
      rw [stA_get ws arr (p + o) _ (by omega)]
      rw [over_get l vs o i hl] at hv
      by_cases hi : o ≤ i ∧ i < o + vs.length
      · rw [if_pos hi] at hv
        rw [if_pos (by omega), show p + i - (p + o) = i - o by omega]
        exact hr.get hv
      · rw [if_neg hi] at hv
        rw [if_neg (by omega)]
        exact h5 i v hv
    · rw [if_neg hxb]
      have h0 := s.ok x c' p' z' hx
      by_cases hcc : c' = c
      · subst hcc
        cases hgx : H.get x with
        | dead => trivial
        | cells l' wr' => exact absurd (s.inj b x c' p z p' z' hb hx hlive (by rw [hgx]; intro h; cases h) (not_ro hg)).symm hxb
        | map es => exact absurd (s.inj b x c' p z p' z' hb hx hlive (by rw [hgx]; intro h; cases h) (not_ro hg)).symm hxb
        | dmap es => exact absurd (s.inj b x c' p z p' z' hb hx hlive (by rw [hgx]; intro h; cases h) (not_ro hg)).symm hxb
        | lp y tm st pend => exact absurd (s.inj b x c' p z p' z' hb hx hlive (by rw [hgx]; intro h; cases h) (not_ro hg)).symm hxb
        | dfb => exact absurd (s.inj b x c' p z p' z' hb hx hlive (by rw [hgx]; intro h; cases h) (not_ro hg)).symm hxb
        | iter m since seen => exact absurd (s.inj b x c' p z p' z' hb hx hlive (by rw [hgx]; intro h; cases h) (not_ro hg)).symm hxb
      · rw [stW_other ws w (p + o) hcc]; exact h0
  · have live : ∀ x, (H.put b (.cells (over l o vs) true)).get x ≠ .dead → H.get x ≠ .dead := fun x hx => by
      rw [hget] at hx
      by_cases hxb : x = b
      · subst hxb; exact hlive
      · rw [if_neg hxb] at hx; exact hx
    refine s.inj x y c' p1 z1 p2 z2 hx hy (live x lx) (live y ly) (fun ⟨l', e⟩ => ?_)
    by_cases hxb : x = b
    · subst hxb; exact not_ro hg ⟨l', e⟩
    · exact lr ⟨l', by rw [hget, if_neg hxb]; exact e⟩
  · rw [hget]
    by_cases hxb : x = b
    · subst hxb; rw [hg] at hx; cases hx
    · rw [if_neg hxb]; exact hx
  · refine stW_other ws w (p + o) (fun hkc => ?_)
    subst hkc
    obtain ⟨l', hl'⟩ := hro b p z hb
    rw [hg] at hl'; cases hl'

def upd (ι : Im) (b c p z : Nat) : Im := fun x => if x = b then some (c, p, z) else ι x

theorem ILe.upd {b c p z : Nat} (h : ι b = none) : ILe ι (upd ι b c p z) := fun x y e => by
  unfold Ab.upd; by_cases hx : x = b
  · subst hx; rw [h] at e; cases e
  · rw [if_neg hx]; exact e

def pushW (w : World) (arr : Array Value) (ty : TypeId) : World := { w with heap := w.heap.push (.cells arr ty) }

theorem pushW_old (arr : Array Value) (ty : TypeId) {k : Nat} (h : k < w.heap.size) : (pushW w arr ty).heap[k]? = w.heap[k]? := by
  show (w.heap.push _)[k]? = _; rw [Array.getElem?_push, if_neg (by omega)]
theorem pushW_new (arr : Array Value) (ty : TypeId) : (pushW w arr ty).heap[w.heap.size]? = some (.cells arr ty) := by
  show (w.heap.push _)[w.heap.size]? = _; simp

/-- A block that the heap has, and the world had not: it is laid now. -/
theorem Sim.lay {l : List V} {b : Nat} {arr : Array Value} {ι0 : Im} {H0 : Heap} {w0 : World} (ty : TypeId) (s0 : Sim L ι0 H0 w0) (s : Sim L ι H w) (x0 : Ext ι0 H0 w0 ι H w) (h0 : H0.next ≤ b) (hb : ι b = none)
    (hn : b < H.next) (hg : H.get b = .cells l true) (hl : l.length ≤ arr.size) (hr : ∀ (i : Nat) (v : V), l[i]? = some v → ∃ v', arr[i]? = some v' ∧ Rel L ι v v') :
    Sim L (upd ι b w.heap.size 0 arr.size) H (pushW w arr ty) ∧ Ext ι0 H0 w0 (upd ι b w.heap.size 0 arr.size) H (pushW w arr ty) := by
  have hle : ILe ι (Ab.upd ι b w.heap.size 0 arr.size) := ILe.upd hb
  have hsz : (pushW w arr ty).heap.size = w.heap.size + 1 := by simp [pushW]
  have hold : ∀ x c p z, x ≠ b → Ab.upd ι b w.heap.size 0 arr.size x = some (c, p, z) → ι x = some (c, p, z) := fun x c p z hx e => by
    unfold Ab.upd at e; rw [if_neg hx] at e; exact e
  have hnew : Ab.upd ι b w.heap.size 0 arr.size b = some (w.heap.size, 0, arr.size) := by unfold Ab.upd; rw [if_pos rfl]
  refine ⟨⟨s.dn, fun x hx => ?_, fun x c p z e => ?_, fun x c p z e => ?_, fun x y c p1 z1 p2 z2 ex ey lx ly lr => ?_⟩,
    ⟨x0.le.trans hle, Nat.le_trans x0.hs (by omega), x0.hn, x0.ro, fun x c p z e e' => ?_, fun k hk hro => ?_, fun x hx e => ?_, x0.os, x0.tape, x0.output⟩⟩
  · have hxb : x ≠ b := by omega
    unfold Ab.upd; rw [if_neg hxb]; exact s.nx x hx
  · rw [hsz]
    by_cases hx : x = b
    · subst hx; rw [hnew] at e; cases e; omega
    · have := s.lt x c p z (hold x c p z hx e); omega
  · by_cases hx : x = b
    · subst hx; rw [hnew] at e; cases e
      rw [hg]
      refine ⟨arr, ty, (0, 0), pushW_new arr ty, rfl, by omega, fun _ => .inl rfl, fun i v hv => ?_⟩
      obtain ⟨v', h1, h2⟩ := hr i v hv
      exact ⟨v', by rw [Nat.zero_add]; exact h1, Rel.mono hle _ _ h2⟩
    · have e0 := hold x c p z hx e
      rw [pushW_old arr ty (s.lt x c p z e0)]
      exact (s.ok x c p z e0).mono hle
  · by_cases hx : x = b
    · subst hx
      rw [hnew] at ex; cases ex
      by_cases hy : y = x
      · exact hy.symm
      · have := s.lt y _ _ _ (hold y _ _ _ hy ey); omega
    · have ex0 := hold x _ _ _ hx ex
      by_cases hy : y = b
      · subst hy
        rw [hnew] at ey; cases ey
        have := s.lt x _ _ _ ex0; omega
      · exact s.inj x y c p1 z1 p2 z2 ex0 (hold y _ _ _ hy ey) lx ly lr
  · by_cases hx : x = b
    · subst hx; rw [hnew] at e'; cases e'; exact .inl x0.hs
    · exact x0.new x c p z e (hold x c p z hx e')
  · rw [pushW_old arr ty (Nat.lt_of_lt_of_le hk x0.hs)]; exact x0.kept k hk hro
  · have hx2 : x ≠ b := by omega
    unfold Ab.upd; rw [if_neg hx2]; exact x0.dom x hx e

/-- A new block on the heap alone. -/
theorem Sim.ghost (s : Sim L ι H w) (o : Obj) : Sim L ι (H.new o) w ∧ Ext ι H w ι (H.new o) w := by
  have hget : ∀ x, x < H.next → (H.new o).get x = H.get x := fun x hx => by
    show (if x = H.next then o else H.get x) = _; rw [if_neg (by omega)]
  have low : ∀ b x, ι b = some x → b < H.next := fun b x e => by
    rcases Nat.lt_or_ge b H.next with hb | hb
    · exact hb
    · rw [s.nx b hb] at e; cases e
  refine ⟨⟨fun b hb => by
      have hn : (H.new o).next = H.next + 1 := rfl
      show (if b = H.next then o else H.get b) = _
      rw [if_neg (by omega)]; exact s.dn b (by omega), fun b hb => s.nx b (by have : (H.new o).next = H.next + 1 := rfl; omega), s.lt, fun b c p z e => by rw [hget b (low b _ e)]; exact s.ok b c p z e,
    fun x y c p1 z1 p2 z2 ex ey lx ly lr => ?_⟩, ⟨ILe.refl _, Nat.le_refl _, Nat.le_succ _, fun b l hb hl => by rw [hget b hb]; exact hl, (fun b c p z e e' => by rw [e] at e'; cases e'),
    fun _ _ _ => rfl, fun _ _ h => h, rfl, rfl, rfl⟩⟩
  rw [hget x (low x _ ex)] at lx
  rw [hget y (low y _ ey)] at ly
  exact s.inj x y c p1 z1 p2 z2 ex ey lx ly (fun ⟨l', e⟩ => lr ⟨l', by rw [hget x (low x _ ex)]; exact e⟩)

theorem new_get (o : Obj) : (H.new o).get H.next = o := by show (if H.next = H.next then o else _) = o; rw [if_pos rfl]

/-- Both at once. -/
theorem Sim.fresh {l : List V} {arr : Array Value} (ty : TypeId) (s : Sim L ι H w) (hl : l.length ≤ arr.size)
    (hr : ∀ (i : Nat) (v : V), l[i]? = some v → ∃ v', arr[i]? = some v' ∧ Rel L ι v v') :
    Sim L (upd ι H.next w.heap.size 0 arr.size) (H.new (.cells l true)) (pushW w arr ty) ∧ Ext ι H w (upd ι H.next w.heap.size 0 arr.size) (H.new (.cells l true)) (pushW w arr ty) := by
  obtain ⟨s1, x1⟩ := s.ghost (.cells l true)
  exact Sim.lay (b := H.next) ty s s1 x1 (Nat.le_refl _) (s.nx _ (Nat.le_refl _)) (Nat.lt_succ_self _) (new_get _) hl hr

/-- A block dies. -/
theorem Sim.kill (s : Sim L ι H w) {b : Nat} {l : List V} (hg : H.get b = .cells l true) : Sim L ι (H.put b .dead) w ∧ Ext ι H w ι (H.put b .dead) w := by
  have hget : ∀ x, (H.put b .dead).get x = if x = b then .dead else H.get x := fun _ => rfl
  refine ⟨⟨fun x hx => by
      rw [hget]
      by_cases hxb : x = b
      · rw [if_pos hxb]
      · rw [if_neg hxb]; exact s.dn x hx, s.nx, s.lt, fun x c p z e => ?_, fun x y c p1 z1 p2 z2 ex ey lx ly lr => ?_⟩, ⟨ILe.refl _, Nat.le_refl _, Nat.le_refl _, fun x lx _ hx => ?_, (fun x c p z e e' => by rw [e] at e'; cases e'),
    fun _ _ _ => rfl, fun _ _ h => h, rfl, rfl, rfl⟩⟩
  · rw [hget]; by_cases hx : x = b
    · rw [if_pos hx]; trivial
    · rw [if_neg hx]; exact s.ok x c p z e
  · rw [hget] at lx ly
    by_cases hx : x = b
    · rw [if_pos hx] at lx; exact absurd rfl lx
    · by_cases hy : y = b
      · rw [if_pos hy] at ly; exact absurd rfl ly
      · rw [if_neg hx] at lx; rw [if_neg hy] at ly; exact s.inj x y c p1 z1 p2 z2 ex ey lx ly (fun ⟨l', e⟩ => lr ⟨l', by rw [hget, if_neg hx]; exact e⟩)
  · rw [hget]; by_cases hxb : x = b
    · subst hxb; rw [hg] at hx; cases hx
    · rw [if_neg hxb]; exact hx

/-- A row that grows where it stands: its block dies, another one has its place and what is written behind. -/
theorem Sim.grow {l old new : List V} {ws : List Value} {b c p z o q n : Nat} (s : Sim L ι H w) (hb : ι b = some (c, p, z)) (hg : H.get b = .cells l true) (hp : Ab.piece l o n = some old)
    (hq : 0 < n → q = p + o) (hz : q + n + new.length ≤ z) (hr : RelL L ι new ws) :
    Sim L (upd ι H.next c q z) ((H.put b .dead).new (.cells (old ++ new) true)) (stW w c (q + n) ws) ∧
      Ext ι H w (upd ι H.next c q z) ((H.put b .dead).new (.cells (old ++ new) true)) (stW w c (q + n) ws) := by
  obtain ⟨arr, ty, fz, e, e2, e3, e4, h5⟩ := s.row hb hg
  obtain ⟨w1, w2, w3, w4⟩ := stW_same ws w c (q + n)
  have hlen := hr.length
  have hlive : H.get b ≠ .dead := by rw [hg]; intro h; cases h
  have hnx := s.nx H.next (Nat.le_refl _)
  have hle : ILe ι (upd ι H.next c q z) := ILe.upd hnx
  have low : ∀ b x, ι b = some x → b < H.next := fun b x e => by
    rcases Nat.lt_or_ge b H.next with hb | hb
    · exact hb
    · rw [s.nx b hb] at e; cases e
  have hbn := low b _ hb
  have hold : ∀ x y, x ≠ H.next → upd ι H.next c q z x = some y → ι x = some y := fun x y hx e => by
    unfold Ab.upd at e; rw [if_neg hx] at e; exact e
  have hnew : upd ι H.next c q z H.next = some (c, q, z) := by unfold Ab.upd; rw [if_pos rfl]
  have hget : ∀ x, ((H.put b .dead).new (.cells (old ++ new) true)).get x = if x = H.next then .cells (old ++ new) true else if x = b then .dead else H.get x := fun _ => rfl
  have hol : old.length = n ∧ ∀ i, i < n → old[i]? = l[o + i]? := by
    unfold Ab.piece at hp; split at hp
    · cases hp; refine ⟨by simp; omega, fun i hi => by rw [List.getElem?_take, if_pos hi, List.getElem?_drop]⟩
    · cases hp
  refine ⟨⟨fun x hx => by
      have h : ((H.put b .dead).new (.cells (old ++ new) true)).next = H.next + 1 := rfl
      rw [hget, if_neg (by omega)]
      by_cases hxb : x = b
      · rw [if_pos hxb]
      · rw [if_neg hxb]; exact s.dn x (by omega), fun x hx => ?_, fun x c' p' z' ex => ?_, fun x c' p' z' ex => ?_, fun x y c' p1 z1 p2 z2 ex ey lx ly lr => ?_⟩,
    ⟨hle, by rw [w1]; exact Nat.le_refl _, Nat.le_succ _, fun x lx hxn hx => ?_, fun x c' p' z' h1 h2 => ?_, fun k hk hro => ?_, fun x hx hxn => ?_, w2, w3, w4⟩⟩
  · have h : ((H.put b .dead).new (.cells (old ++ new) true)).next = H.next + 1 := rfl
    unfold Ab.upd; rw [if_neg (by omega)]; exact s.nx x (by omega)
  · rw [w1]
    by_cases hx : x = H.next
    · subst hx; rw [hnew] at ex; cases ex; exact s.lt b _ _ _ hb
    · exact s.lt x _ _ _ (hold x _ hx ex)
  · rw [hget]
    by_cases hx : x = H.next
    · subst hx; rw [hnew] at ex; cases ex
      rw [if_pos rfl]
      refine ⟨stA arr (q + n) ws, ty, fz, stW_heap ws w (q + n) e, by rw [stA_size, e2], by rw [List.length_append, hol.1]; omega, fun _ => e4 rfl, fun i v hv => ?_⟩
      rw [stA_get ws arr (q + n) _ (by omega)]
      by_cases hi : i < n
      · rw [List.getElem?_append_left (by omega), hol.2 i hi] at hv
        have hqq := hq (by omega)
        rw [if_neg (by omega)]
        obtain ⟨v', h1, h2⟩ := h5 _ _ hv
        exact ⟨v', by rw [← h1, hqq, Nat.add_assoc], Rel.mono hle _ _ h2⟩
      · rw [List.getElem?_append_right (by omega), hol.1] at hv
        have hi2 : i - n < new.length := by
          rcases Nat.lt_or_ge (i - n) new.length with h | h
          · exact h
          · rw [List.getElem?_eq_none h] at hv; cases hv
        rw [if_pos (by omega), show q + i - (q + n) = i - n by omega]
        obtain ⟨v', h1, h2⟩ := hr.get hv
        exact ⟨v', h1, Rel.mono hle _ _ h2⟩
    · rw [if_neg hx]
      have ex0 := hold x _ hx ex
      by_cases hxb : x = b
      · rw [if_pos hxb]; trivial
      · rw [if_neg hxb]
        have h0 := s.ok x c' p' z' ex0
        by_cases hcc : c' = c
        · subst hcc
          cases hgx : H.get x with
          | dead => trivial
          | cells l' wr' => exact absurd (s.inj b x c' p z p' z' hb ex0 hlive (by rw [hgx]; intro h; cases h) (not_ro hg)).symm hxb
          | map es => exact absurd (s.inj b x c' p z p' z' hb ex0 hlive (by rw [hgx]; intro h; cases h) (not_ro hg)).symm hxb
          | dmap es => exact absurd (s.inj b x c' p z p' z' hb ex0 hlive (by rw [hgx]; intro h; cases h) (not_ro hg)).symm hxb
          | lp y tm st pend => exact absurd (s.inj b x c' p z p' z' hb ex0 hlive (by rw [hgx]; intro h; cases h) (not_ro hg)).symm hxb
          | dfb => exact absurd (s.inj b x c' p z p' z' hb ex0 hlive (by rw [hgx]; intro h; cases h) (not_ro hg)).symm hxb
          | iter m since seen => exact absurd (s.inj b x c' p z p' z' hb ex0 hlive (by rw [hgx]; intro h; cases h) (not_ro hg)).symm hxb
        · rw [stW_other ws w (q + n) hcc]; exact h0.mono hle
  · rw [hget] at lx ly
    by_cases hx : x = H.next
    · subst hx
      rw [hnew] at ex; cases ex
      by_cases hy : y = H.next
      · exact hy.symm
      · rw [if_neg hy] at ly
        by_cases hyb : y = b
        · rw [if_pos hyb] at ly; exact absurd rfl ly
        · rw [if_neg hyb] at ly
          exact absurd (s.inj b y _ p z _ _ hb (hold y _ hy ey) hlive ly (not_ro hg)).symm hyb
    · rw [if_neg hx] at lx
      have ex0 := hold x _ hx ex
      by_cases hxb : x = b
      · rw [if_pos hxb] at lx; exact absurd rfl lx
      · rw [if_neg hxb] at lx
        by_cases hy : y = H.next
        · subst hy; rw [hnew] at ey; cases ey
          exact absurd (s.inj b x _ p z _ _ hb ex0 hlive lx (not_ro hg)).symm hxb
        · rw [if_neg hy] at ly
          by_cases hyb : y = b
          · rw [if_pos hyb] at ly; exact absurd rfl ly
          · rw [if_neg hyb] at ly
            exact s.inj x y c' p1 z1 p2 z2 ex0 (hold y _ hy ey) lx ly (fun ⟨l', e⟩ => lr ⟨l', by rw [hget, if_neg hx, if_neg hxb]; exact e⟩)
  · rw [hget, if_neg (by omega)]
    by_cases hxb : x = b
    · subst hxb; rw [hg] at hx; cases hx
    · rw [if_neg hxb]; exact hx
  · by_cases hx : x = H.next
    · subst hx; rw [hnew] at h2; cases h2
      exact .inr ⟨b, p, z, hb, fun ⟨l', hl'⟩ => by rw [hg] at hl'; cases hl'⟩
    · rw [hold x _ hx h2] at h1; cases h1
  · refine stW_other ws w (q + n) (fun hkc => ?_)
    subst hkc
    obtain ⟨l', hl'⟩ := hro b p z hb
    rw [hg] at hl'; cases hl'
  · unfold Ab.upd; rw [if_neg (by omega)]; exact hxn

def pushO (w : World) (x : Go.Obj) : World := { w with heap := w.heap.push x }
theorem pushO_old (x : Go.Obj) {k : Nat} (h : k < w.heap.size) : (pushO w x).heap[k]? = w.heap[k]? := by
  show (w.heap.push _)[k]? = _; rw [Array.getElem?_push, if_neg (by omega)]
theorem pushO_new (x : Go.Obj) : (pushO w x).heap[w.heap.size]? = some x := by
  show (w.heap.push _)[w.heap.size]? = _; simp
theorem Sim.freshZ {o : Obj} {x : Go.Obj} (z1 : Nat) (s : Sim L ι H w) (hok : ∀ ι', ILe ι ι' → Okay L ι' 0 z1 o (some x)) :
    Sim L (upd ι H.next w.heap.size 0 z1) (H.new o) (pushO w x) ∧ Ext ι H w (upd ι H.next w.heap.size 0 z1) (H.new o) (pushO w x) := by
  obtain ⟨s1, x1⟩ := s.ghost o
  have hb := s.nx _ (Nat.le_refl H.next)
  have hle : ILe ι (Ab.upd ι H.next w.heap.size 0 z1) := ILe.upd hb
  have hsz : (pushO w x).heap.size = w.heap.size + 1 := by simp [pushO]
  have hold : ∀ y c p z, y ≠ H.next → Ab.upd ι H.next w.heap.size 0 z1 y = some (c, p, z) → ι y = some (c, p, z) := fun y c p z hx e => by
    unfold Ab.upd at e; rw [if_neg hx] at e; exact e
  have hnew : Ab.upd ι H.next w.heap.size 0 z1 H.next = some (w.heap.size, 0, z1) := by unfold Ab.upd; rw [if_pos rfl]
  refine ⟨⟨s1.dn, fun y hx => ?_, fun y c p z e => ?_, fun y c p z e => ?_, fun y y' c p1 z1 p2 z2 ex ey lx ly lr => ?_⟩,
    ⟨x1.le.trans hle, Nat.le_trans x1.hs (by omega), x1.hn, x1.ro, fun y c p z e e' => ?_, fun k hk hro => ?_, fun y hx e => ?_, x1.os, x1.tape, x1.output⟩⟩
  · have hxb : y ≠ H.next := by have : (H.new o).next = H.next + 1 := rfl; omega
    unfold Ab.upd; rw [if_neg hxb]; exact s1.nx y hx
  · rw [hsz]
    by_cases hx : y = H.next
    · subst hx; rw [hnew] at e; cases e; omega
    · have := s1.lt y c p z (hold y c p z hx e); omega
  · by_cases hx : y = H.next
    · subst hx; rw [hnew] at e; cases e
      rw [new_get, pushO_new]
      exact hok _ hle
    · have e0 := hold y c p z hx e
      rw [pushO_old x (s1.lt y c p z e0)]
      exact (s1.ok y c p z e0).mono hle
  · by_cases hx : y = H.next
    · subst hx
      rw [hnew] at ex; cases ex
      by_cases hy : y' = H.next
      · exact hy.symm
      · have := s1.lt y' _ _ _ (hold y' _ _ _ hy ey); omega
    · have ex0 := hold y _ _ _ hx ex
      by_cases hy : y' = H.next
      · subst hy
        rw [hnew] at ey; cases ey
        have := s1.lt y _ _ _ ex0; omega
      · exact s1.inj y y' c p1 z1 p2 z2 ex0 (hold y' _ _ _ hy ey) lx ly lr
  · by_cases hx : y = H.next
    · subst hx; rw [hnew] at e'; cases e'; exact .inl x1.hs
    · exact x1.new y c p z e (hold y c p z hx e')
  · exact pushO_old x (Nat.lt_of_lt_of_le hk x1.hs)
  · have hx2 : y ≠ H.next := by omega
    unfold Ab.upd; rw [if_neg hx2]; exact x1.dom y hx e
theorem Sim.freshO {o : Obj} {x : Go.Obj} (s : Sim L ι H w) (hok : ∀ ι', ILe ι ι' → Okay L ι' 0 1 o (some x)) :
    Sim L (upd ι H.next w.heap.size 0 1) (H.new o) (pushO w x) ∧ Ext ι H w (upd ι H.next w.heap.size 0 1) (H.new o) (pushO w x) := s.freshZ 1 hok
def setO (w : World) (c : Nat) (x : Go.Obj) : World := { w with heap := w.heap.setIfInBounds c x }
theorem setO_same {c : Nat} {x : Go.Obj} (h : c < w.heap.size) : (setO w c x).heap[c]? = some x := by
  show (w.heap.setIfInBounds c x)[c]? = _
  rw [Array.getElem?_setIfInBounds, if_pos rfl, if_pos h]
theorem setO_other {c k : Nat} {x : Go.Obj} (h : k ≠ c) : (setO w c x).heap[k]? = w.heap[k]? := by
  show (w.heap.setIfInBounds c x)[k]? = _
  rw [Array.getElem?_setIfInBounds, if_neg (fun e => h e.symm)]
theorem Sim.setObj {o' : Obj} {x : Go.Obj} {b c p z : Nat} (s : Sim L ι H w) (hb : ι b = some (c, p, z)) (hlive : H.get b ≠ .dead) (hro : ¬ RO H b) (hro' : ∀ l, o' ≠ .cells l false) (hok : Okay L ι p z o' (some x)) :
    Sim L ι (H.put b o') (setO w c x) ∧ Ext ι H w ι (H.put b o') (setO w c x) := by
  have hc := s.lt _ _ _ _ hb
  have hget : ∀ y, (H.put b o').get y = if y = b then o' else H.get y := fun _ => rfl
  have hsz : (setO w c x).heap.size = w.heap.size := by simp [setO]
  refine ⟨⟨fun y hx => by
      have : y ≠ b := fun hxb => by subst hxb; rw [s.nx y hx] at hb; cases hb
      rw [hget, if_neg this]; exact s.dn y hx, fun y hx => s.nx y hx, fun y c' p' z' hx => by rw [hsz]; exact s.lt y c' p' z' hx, fun y c' p' z' hx => ?_, fun y y' c' p1 z1 p2 z2 hx hy lx ly lr => ?_⟩,
    ⟨ILe.refl _, by rw [hsz]; exact Nat.le_refl _, Nat.le_refl _, fun y ly _ hx => ?_, (fun y _ _ _ h1 h2 => by rw [h1] at h2; cases h2), fun k hk hrk => ?_, fun _ _ h => h, rfl, rfl, rfl⟩⟩
  · rw [hget]
    by_cases hxb : y = b
    · subst hxb
      rw [hb] at hx; cases hx
      rw [if_pos rfl, setO_same hc]
      exact hok
    · rw [if_neg hxb]
      have h0 := s.ok y c' p' z' hx
      by_cases hcc : c' = c
      · subst hcc
        have key : H.get y ≠ .dead → False := fun hl => hxb (s.inj b y c' p z p' z' hb hx hlive hl hro).symm
        cases hgx : H.get y with
        | dead => trivial
        | cells l' wr' => exact (key (by rw [hgx]; intro h; cases h)).elim
        | map es => exact (key (by rw [hgx]; intro h; cases h)).elim
        | dmap es => exact (key (by rw [hgx]; intro h; cases h)).elim
        | lp y tm st pend => exact (key (by rw [hgx]; intro h; cases h)).elim
        | dfb => exact (key (by rw [hgx]; intro h; cases h)).elim
        | iter m since seen => exact (key (by rw [hgx]; intro h; cases h)).elim
      · rw [setO_other hcc]; exact h0
  · have live : ∀ y, (H.put b o').get y ≠ .dead → H.get y ≠ .dead := fun y hx => by
      rw [hget] at hx
      by_cases hxb : y = b
      · subst hxb; exact hlive
      · rw [if_neg hxb] at hx; exact hx
    refine s.inj y y' c' p1 z1 p2 z2 hx hy (live y lx) (live y' ly) (fun ⟨l', e⟩ => ?_)
    by_cases hxb : y = b
    · subst hxb; exact hro ⟨l', e⟩
    · exact lr ⟨l', by rw [hget, if_neg hxb]; exact e⟩
  · rw [hget]
    by_cases hxb : y = b
    · subst hxb; exact absurd ⟨_, hx⟩ hro
    · rw [if_neg hxb]; exact hx
  · refine setO_other (fun hkc => ?_)
    subst hkc
    exact hro (hrk b p z hb)
end Go.Ab
namespace Go.Ab
variable {L : Lk} {ι : Im} {H : Heap} {w : World} {P : Program}
mutual
def ckV (L : Lk) : V → Value → Bool
  | .bool b, .bool c => b == c
  | .int k n, .int k' m => decide (k = k') && decide (n = m)
  | .flt k n, .float k' m => decide (k = k') && n == m
  | .str s, .string t => decide (s = t)
  | .ptr none, .pointer none => true
  | .sl none l c _, .slice none l' c' => l == 0 && c == 0 && l' == 0 && c' == 0
  | .map none, .map none => true
  | .nilfn, .nilFunc => true
  | .nilifc, .nilIface => true
  | .ifc t v, .iface u x => L.τ t == u && ckV L v x
  | .agg l, .agg vs => ckVL L l vs.toList
  | .tup l, .tuple vs => ckVL L l vs.toList
  | _, _ => false
def ckVL (L : Lk) : List V → List Value → Bool
  | [], [] => true
  | v :: l, x :: s => ckV L v x && ckVL L l s
  | _, _ => false
end
mutual
theorem ckV_rel (L : Lk) (ι : Im) : ∀ (v : V) (x : Value), ckV L v x = true → Rel L ι v x
  | .bool b, x, h => by cases x <;> simp [ckV] at h; subst h; rfl
  | .int k n, x, h => by cases x <;> simp [ckV] at h; obtain ⟨rfl, rfl⟩ := h; rfl
  | .flt k n, x, h => by cases x <;> simp [ckV] at h; obtain ⟨rfl, rfl⟩ := h; rfl
  | .str s, x, h => by cases x <;> simp [ckV] at h; subst h; rfl
  | .ptr none, x, h => by cases x with
    | pointer a => cases a with
      | none => rfl
      | some a => simp [ckV] at h
    | _ => simp [ckV] at h
  | .ptr (some a), x, h => by cases x <;> simp [ckV] at h
  | .sl none l c e, x, h => by cases x with
    | slice a l' c' => cases a with
      | none => simp [ckV] at h; obtain ⟨⟨⟨h1, h2⟩, h3⟩, h4⟩ := h; subst h1 h2 h3 h4; exact ⟨rfl, rfl, rfl⟩
      | some a => simp [ckV] at h
    | _ => simp [ckV] at h
  | .sl (some a) l c e, x, h => by cases x <;> simp [ckV] at h
  | .map none, x, h => by cases x with
    | map a => cases a with
      | none => rfl
      | some a => simp [ckV] at h
    | _ => simp [ckV] at h
  | .map (some a), x, h => by cases x <;> simp [ckV] at h
  | .fn g f c, x, h => by cases x <;> simp [ckV] at h
  | .nilfn, x, h => by cases x <;> simp [ckV] at h; rfl
  | .ifc t v, x, h => by
    cases x <;> simp [ckV] at h
    obtain ⟨h1, h2⟩ := h
    exact ⟨_, by rw [h1], ckV_rel L ι v _ h2⟩
  | .nilifc, x, h => by cases x <;> simp [ckV] at h; rfl
  | .agg l, x, h => by
    cases x <;> simp [ckV] at h
    exact ⟨_, rfl, ckVL_rel L ι l _ h⟩
  | .tup l, x, h => by
    cases x <;> simp [ckV] at h
    exact ⟨_, rfl, ckVL_rel L ι l _ h⟩
  | .un, x, h => trivial
theorem ckVL_rel (L : Lk) (ι : Im) : ∀ (v : List V) (x : List Value), ckVL L v x = true → RelL L ι v x
  | [], [], _ => rfl
  | [], _ :: _, h => by simp [ckVL] at h
  | v :: l, [], h => by simp [ckVL] at h
  | v :: l, x :: s, h => by
    simp [ckVL] at h
    exact ⟨x, s, rfl, ckV_rel L ι v x h.1, ckVL_rel L ι l s h.2⟩
end
def ckOpd (L : Lk) : Opd → Operand → Bool
  | .t n, .tmp m => n == m
  | .c v, .const x => ckV L v x
  | .c .un, .func _ => true
  | .f g, .func f => L.dom g && L.φ g == f
  | _, _ => false

def ckOpds (L : Lk) : List Opd → List Operand → Bool
  | [], [] => true
  | x :: r, y :: s => ckOpd L x y && ckOpds L r s
  | _, _ => false

theorem opd_rel {fr : Fr} {a : Act} (hf : FrRel L ι fr a.tmps) {x : Opd} {y : Operand} {v : V} (hc : ckOpd L x y = true) (h : opd fr x = some v) : Rel L ι v (a.eval y) := by
  cases x with
  | t n =>
    cases y <;> simp [ckOpd] at hc
    subst hc
    obtain ⟨v', h1, h2⟩ := hf n v h
    simp only [Act.eval, Array.getD_eq_getD_getElem?, h1, Option.getD_some]; exact h2
  | c u =>
    cases h
    cases y with
    | const x => simp only [ckOpd] at hc; exact ckV_rel L ι _ _ hc
    | func f => cases v <;> first | trivial | (simp [ckOpd] at hc)
    | _ => cases v <;> simp [ckOpd] at hc
  | f g =>
    cases y <;> simp [ckOpd] at hc
    cases h
    exact ⟨#[], #[], by simp [Act.eval, hc.2], hc.1, rfl, rfl⟩

theorem opds_rel {fr : Fr} {a : Act} (hf : FrRel L ι fr a.tmps) : ∀ {xs : List Opd} {ys : List Operand} {vs : List V}, ckOpds L xs ys = true → opds fr xs = some vs → RelL L ι vs (ys.map a.eval)
  | [], [], vs, _, h => by cases h; rfl
  | [], _ :: _, _, hc, _ => by simp [ckOpds] at hc
  | _ :: _, [], _, hc, _ => by simp [ckOpds] at hc
  | x :: xs, y :: ys, vs, hc, h => by
    simp [ckOpds] at hc
    simp only [opds] at h
    split at h
    · rename_i v l h1 h2
      cases h
      exact ⟨_, _, rfl, opd_rel hf hc.1 h1, opds_rel hf hc.2 h2⟩
    · cases h

theorem r_und {t : TypeId} {d : TypeDesc} (h : P.underlying t = some d) : (underlying t).run P w = .ok d w := by simp [underlying, h]
theorem r_info {t : TypeId} {i : TypeInfo} (h : P.info? t = some i) : (typeInfo t).run P w = .ok i w := by simp [typeInfo, h]
theorem r_size {t : TypeId} {i : TypeInfo} (h : P.info? t = some i) : (sizeOf t).run P w = .ok i.size w := by simp [sizeOf, r_info h]
theorem r_zero {t : TypeId} {i : TypeInfo} {z : Value} (h : P.info? t = some i) (hz : i.zero = some z) : (zeroValue t).run P w = .ok z w := by simp [zeroValue, r_info h, hz]
def aggD : TypeDesc → Bool
  | .struct _ => true
  | .array _ _ => true
  | _ => false
theorem r_isAgg {t : TypeId} {d : TypeDesc} (h : P.underlying t = some d) : (isAgg t).run P w = .ok (aggD d) w := by
  unfold isAgg; rw [Sem.run_bind, r_und h]
  cases d <;> rfl

def ckAgg (P : Program) (t : TypeId) (n : Option Nat) : Bool :=
  match P.underlying t with
  | some d => match n with
    | none => !aggD d
    | some n => aggD d && (P.info? t).any fun i => i.size == n
  | none => false

def ckSize (P : Program) (t : TypeId) (n : Nat) : Bool := decide (0 < n) && (P.info? t).any fun i => i.size == n
theorem ckSize_spec {t : TypeId} {n : Nat} (h : ckSize P t n = true) : 0 < n ∧ ∃ i, P.info? t = some i ∧ i.size = n := by
  simp only [ckSize, Bool.and_eq_true, decide_eq_true_eq, Option.any_eq_true, beq_iff_eq] at h; exact h

def isIntD : TypeDesc → Option IntKind
  | .int k => some k
  | _ => none

def ckFs (P : Program) : List (Nat × BK) → List Field → Bool
  | [], [] => true
  | (o, k) :: r, f :: g => o == f.offset && f.name != "_" && (match P.underlying f.type, k with | some (.int _), .num => true | some .bool, .bool => true | _, _ => false) && ckFs P r g
  | _, _ => false

def ckBK (P : Program) (t : TypeId) : BK → Bool
  | .num => true
  | .bool => match P.underlying t with | some .bool => true | _ => false
  | .ptr => match P.underlying t with | some (.pointer _) => true | _ => false
  | .slice => match P.underlying t with | some (.slice _) => true | _ => false
  | .func => match P.underlying t with | some (.func _ _ _) => true | _ => false
  | .ifc => match P.underlying t with | some (.interface _) => true | _ => false
  | .agg fs => match P.underlying t with | some (.struct g) => ckFs P fs g.toList && !P.stoodInHeld t && !P.eqGuardType P.depth t | _ => false

/-- The slice type's element: how many cells, and bytes, it has. -/
def ckEl (P : Program) (t : TypeId) (esz : Nat) : Bool :=
  match P.underlying t with
  | some (.slice e) => (P.info? e).any fun i => i.size == esz
  | _ => false
theorem ckEl_spec {t : TypeId} {n : Nat} (h : ckEl P t n = true) : ∃ e i, P.underlying t = some (.slice e) ∧ P.info? e = some i ∧ i.size = n := by
  unfold ckEl at h; split at h
  · rename_i e he; simp only [Option.any_eq_true, beq_iff_eq] at h; obtain ⟨i, h1, h2⟩ := h; exact ⟨e, i, he, h1, h2⟩
  · cases h

def ckOpt (L : Lk) : Option Opd → Option Operand → Bool
  | none, none => true
  | some x, some y => ckOpd L x y
  | _, _ => false

/-- 'len': of a slice (none), an array (its length). -/
def ckLen (L : Lk) (P : Program) (arr : Option Nat) (x : Opd) (c : Go.Call) : Bool :=
  match c.callee, c.args.toList, c.argTypes.toList with
  | .builtin .len, [x'], [t] => ckOpd L x x' && (match P.underlying t, arr with
      | some (.slice _), none => true
      | some (.array m _), some n => n == m
      | _, _ => false)
  | _, _, _ => false

def ckSlen (L : Lk) (P : Program) (x : Opd) (c : Go.Call) : Bool :=
  match c.callee, c.args.toList, c.argTypes.toList with
  | .builtin .len, [x'], [t] => ckOpd L x x' && (match P.underlying t with | some .string => true | _ => false)
  | _, _, _ => false

def ckMM (L : Lk) (mx : Bool) (xs : List Opd) (c : Go.Call) : Bool :=
  match c.callee with
  | .builtin .max => mx && ckOpds L xs c.args.toList
  | .builtin .min => !mx && ckOpds L xs c.args.toList
  | _ => false

/-- Operations that compute, or read: which of the model's they stand for. -/
def ckQ (L : Lk) (P : Program) : AOp → Op → Bool
  | .mv x, .move y => ckOpd L x y
  | .mv x, .assign y => ckOpd L x y
  | .pick c a b, .pick c' a' b' => ckOpd L c c' && ckOpd L a a' && ckOpd L b b'
  | .bin op k x y, .binOp op' t x' y' _ => decide (op = op') && ckBK P t k && ckOpd L x x' && ckOpd L y y'
  | .un op x, .unOp op' _ x' => decide (op = op') && ckOpd L x x'
  | .conv k x, .convert src dst x' => (match P.underlying src, P.underlying dst with | some (.int _), some (.int k') => decide (k = k') | _, _ => false) && ckOpd L x x'
  | .load n a, .load t a' => ckAgg P t n && ckOpd L a a'
  | .fad off x, .fieldAddr s x' f => (match P.underlying s with
      | some (.struct fs) => (fs[f]?).any fun fl => fl.offset == off && (P.info? fl.type).any fun i => i.size != 0
      | _ => false) && ckOpd L x x'
  | .fld off n x, .field s x' f => (match P.underlying s with
      | some (.struct fs) => (fs[f]?).any fun fl => fl.offset == off && ckAgg P fl.type n
      | _ => false) && ckOpd L x x'
  | .iad none esz x i, .indexAddr t x' i' => ckEl P t esz && ckOpd L x x' && ckOpd L i i'
  | .iad (some m) esz x i, .indexAddr t x' i' => (match P.underlying t with
      | some (.array n e) => n == m && (P.info? e).any fun i => i.size == esz
      | _ => false) && ckOpd L x x' && ckOpd L i i'
  | .idx none _ _ x i, .index t x' i' => (match P.underlying t with | some .string => true | _ => false) && ckOpd L x x' && ckOpd L i i'
  | .idx (some m) esz n x i, .index t x' i' => (match P.underlying t with
      | some (.array k e) => k == m && ckAgg P e n && (P.info? e).any fun i => i.size == esz
      | _ => false) && ckOpd L x x' && ckOpd L i i'
  | .slice esz x lo hi mx, .slice t x' lo' hi' mx' => ckEl P t esz && ckOpd L x x' && ckOpt L lo lo' && ckOpt L hi hi' && ckOpt L mx mx' && (hi.isSome || mx.isNone)
  | .substr x lo hi, .slice t x' lo' hi' none => (match P.underlying t with | some .string => true | _ => false) && ckOpd L x x' && ckOpt L lo lo' && ckOpt L hi hi'
  | .nilck x, .nilCheck x' => ckOpd L x x'
  | .ext i x, .extract x' j => i == j && ckOpd L x x'
  | .mkifc t x, .makeInterface t' x' => L.τ t == t' && (match P.underlying t' with | some (.interface _) => false | some _ => true | none => false) && ckOpd L x x'
  | .asrt t x, .typeAssert x' _ t' ok => ok && L.τ t == t' && (match P.underlying t' with | some (.interface _) => false | some _ => true | none => false) && ckOpd L x x'
  | .isnil ne x, .binOp op t x' y' _ => (match y' with | .const .nilIface => true | _ => false) && decide (op = if ne then .neq else .eql) && ckBK P t .ifc && ckOpd L x x'
  | .mkfn g first caps, .makeFunc (.func f) first' caps' => L.dom g && L.φ g == f && ckOpds L first first'.toList && ckOpds L caps caps'.toList
  | .len arr x, .call c => ckLen L P arr x c
  | .slen x, .call c => ckSlen L P x c
  | .mm mx xs, .call c => ckMM L mx xs c
  | .build z ps, .build t parts => (match P.underlying t, (P.info? t).bind (·.zero) with
      | some (.struct fs), some zv => ckVL L z zv.cells.toList && (ps.length == parts.size) && ((ps.zip parts.toList).all fun ((o, n, x), (i, y)) => ckOpd L x y && (fs[i]?).any fun f => f.offset == o && ckSize P f.type n) &&
          fs.all fun f => (P.info? f.type).isSome
      | some (.array _ e), some zv => ckVL L z zv.cells.toList && (P.info? e).isSome && (ps.length == parts.size) && ((ps.zip parts.toList).all fun ((o, n, x), (i, y)) => ckOpd L x y && o == i * n && ckSize P e n)
      | _, _ => false)
  | _, _ => false

/-- What an operation that leaves the world as it is comes to. -/
def Yld (P : Program) (o : Oper) (a : Act) (w : World) (v : Value) : Prop := (execOp a.eval o).run P w = .ok (.value v) w

section
variable {fr : Fr} {a : Act} (hf : FrRel L ι fr a.tmps)
include hf
end
theorem bool_ok {a b : Bool} (h : a = b) : (Result.ok (Value.bool a) w : Result Value) = .ok (.bool b) w := by rw [h]

theorem cmp_sound {op : BinOp} {x y : Int} {b : Bool} (h : cmp op x y = some b) : (Op.intCmp op x y).run P w = .ok (.bool b) w := by
  cases op
  case eql => cases h; exact bool_ok (by rw [Bool.eq_iff_iff]; simp)
  case neq => cases h; exact bool_ok (by rw [Bool.eq_iff_iff]; simp)
  case lss => cases h; rfl
  case leq => cases h; rfl
  case gtr => cases h; rfl
  case geq => cases h; rfl
  all_goals cases h

theorem bitop_sound {op : BinOp} {k : IntKind} {x y : Int} (h : op = .and ∨ op = .or ∨ op = .xor ∨ op = .andNot) : (Op.intBits op k x y).run P w = .ok (.int k (bitop op k x y)) w := by
  rcases h with rfl | rfl | rfl | rfl <;> rfl

theorem arith_sound {op : BinOp} {k : IntKind} {x y : Int} {v : V} {t : TypeId} (h1 : op ≠ .shl) (h2 : op ≠ .shr) (h : arith op k x y = some v) :
    ∃ v', (binOp op t (.int k x) (.int k y)).run P w = .ok v' w ∧ Rel L ι v v' := by
  cases op
  case shl => exact absurd rfl h1
  case shr => exact absurd rfl h2
  case add => cases h; exact ⟨_, by simp [binOp, Op.intArith], rfl⟩
  case sub => cases h; exact ⟨_, by simp [binOp, Op.intArith], rfl⟩
  case mul => cases h; exact ⟨_, by simp [binOp, Op.intArith], rfl⟩
  case quo =>
    simp only [arith] at h
    split at h
    · cases h
    · rename_i h0; cases h; exact ⟨_, by simp [binOp, Op.intDiv, h0], rfl⟩
  case rem =>
    simp only [arith] at h
    split at h
    · cases h
    · rename_i h0; cases h; exact ⟨_, by simp [binOp, Op.intDiv, h0], rfl⟩
  case and => cases h; exact ⟨_, by simp only [binOp, ne_eq, not_true_eq_false, if_false]; exact bitop_sound (by simp), rfl⟩
  case or => cases h; exact ⟨_, by simp only [binOp, ne_eq, not_true_eq_false, if_false]; exact bitop_sound (by simp), rfl⟩
  case xor => cases h; exact ⟨_, by simp only [binOp, ne_eq, not_true_eq_false, if_false]; exact bitop_sound (by simp), rfl⟩
  case andNot => cases h; exact ⟨_, by simp only [binOp, ne_eq, not_true_eq_false, if_false]; exact bitop_sound (by simp), rfl⟩
  all_goals
    simp only [arith, Option.map_eq_some_iff] at h
    obtain ⟨b, hb, rfl⟩ := h
    exact ⟨_, by simp only [binOp, ne_eq, not_true_eq_false, if_false]; exact cmp_sound hb, rfl⟩

theorem eqGuard_pure {op : BinOp} {t : TypeId} {x y : Operand} {a b : Value} (h1 : ∀ l, a ≠ .agg l) (h2 : a ≠ .nilIface ∨ b ≠ .nilIface) : (eqGuard op t x y a b).run P w = .ok () w := by
  have key : (match a, b with
    | .nilIface, .nilIface => False
    | .agg _, .agg _ => False
    | _, _ => True) := by cases a <;> cases b <;> first | trivial | exact absurd rfl (h1 _) | (simp at h2)
  cases op <;> first | rfl | (unfold eqGuard; revert key; cases a <;> cases b <;> intro key <;> first | rfl | exact key.elim)


theorem equalIn_bool {t : TypeId} {a b : Bool} (ht : P.underlying t = some .bool) : (Op.equal t (.bool a) (.bool b)).run P w = .ok (a == b) w := by
  unfold Op.equal Op.maxDepth Op.equalIn; rw [Sem.run_bind, r_und ht]; rfl

theorem eqs_sound {k : BK} {t : TypeId} {x y : V} {x' y' : Value} {b : Bool} (hk : ckBK P t k = true) (hn : k ≠ .num) (h : eqs x y k = some b) (hx : Rel L ι x x') (hy : Rel L ι y y') :
    (Op.equal t x' y').run P w = .ok b w ∧ (∀ l, x' ≠ .agg l) ∧ (x' ≠ .nilIface ∨ y' ≠ .nilIface) ∧ (∀ k n, x' ≠ .int k n) ∧ (∀ s, x' ≠ .string s) ∧ (∀ k n, x' ≠ .float k n) ∧ (∀ k n m, x' ≠ .complex k n m) := by
  cases k with
  | num => exact absurd rfl hn
  | agg fs => simp [eqs] at h
  | bool =>
    have ht : P.underlying t = some .bool := by
      revert hk; unfold ckBK; cases hu : P.underlying t with
      | none => intro hk; cases hk
      | some d => cases d <;> intro hk <;> first | rfl | cases hk
    simp only [eqs] at h
    split at h
    · cases h; cases hx; cases hy
      exact ⟨equalIn_bool ht, by simp⟩
    · cases h
  | ptr =>
    obtain ⟨e, ht⟩ : ∃ e, P.underlying t = some (.pointer e) := by
      revert hk; unfold ckBK; cases hu : P.underlying t with
      | none => intro hk; cases hk
      | some d => cases d <;> intro hk <;> first | exact ⟨_, rfl⟩ | cases hk
    simp only [eqs] at h
    split at h
    · rename_i b'
      cases h; cases hx
      refine ⟨?_, by simp⟩
      cases b' with
      | none => cases hy; unfold Op.equal Op.maxDepth Op.equalIn; rw [Sem.run_bind, r_und ht]; rfl
      | some a => obtain ⟨c, p, z, _, rfl⟩ := hy; unfold Op.equal Op.maxDepth Op.equalIn; rw [Sem.run_bind, r_und ht]; rfl
    · rename_i a' _
      cases h; cases hy
      cases a' with
      | none => cases hx; exact ⟨by unfold Op.equal Op.maxDepth Op.equalIn; rw [Sem.run_bind, r_und ht]; rfl, by simp⟩
      | some a => obtain ⟨c, p, z, _, rfl⟩ := hx; exact ⟨by unfold Op.equal Op.maxDepth Op.equalIn; rw [Sem.run_bind, r_und ht]; rfl, by simp⟩
    · cases h
  | slice =>
    obtain ⟨e, ht⟩ : ∃ e, P.underlying t = some (.slice e) := by
      revert hk; unfold ckBK; cases hu : P.underlying t with
      | none => intro hk; cases hk
      | some d => cases d <;> intro hk <;> first | exact ⟨_, rfl⟩ | cases hk
    simp only [eqs] at h
    split at h
    · rename_i b' _ _ _
      cases h; cases hx.2.2
      refine ⟨?_, by simp⟩
      cases b' with
      | none => cases hy.2.2; unfold Op.equal Op.maxDepth Op.equalIn; rw [Sem.run_bind, r_und ht]; rfl
      | some a => obtain ⟨_, A, cap', rfl, _⟩ := hy; unfold Op.equal Op.maxDepth Op.equalIn; rw [Sem.run_bind, r_und ht]; rfl
    · rename_i a' _ _ _ _ _ _ _
      cases h; cases hy.2.2
      cases a' with
      | none => cases hx.2.2; exact ⟨by unfold Op.equal Op.maxDepth Op.equalIn; rw [Sem.run_bind, r_und ht]; rfl, by simp⟩
      | some a => obtain ⟨_, A, cap', rfl, _⟩ := hx; exact ⟨by unfold Op.equal Op.maxDepth Op.equalIn; rw [Sem.run_bind, r_und ht]; rfl, by simp⟩
    · cases h
  | func =>
    obtain ⟨e1, e2, e3, ht⟩ : ∃ e1 e2 e3, P.underlying t = some (.func e1 e2 e3) := by
      revert hk; unfold ckBK; cases hu : P.underlying t with
      | none => intro hk; cases hk
      | some d => cases d <;> intro hk <;> first | exact ⟨_, _, _, rfl⟩ | cases hk
    simp only [eqs] at h
    split at h
    · cases h; cases hx; cases hy
      exact ⟨by unfold Op.equal Op.maxDepth Op.equalIn; rw [Sem.run_bind, r_und ht]; rfl, by simp⟩
    · cases h; cases hx; obtain ⟨_, _, rfl, _⟩ := hy
      exact ⟨by unfold Op.equal Op.maxDepth Op.equalIn; rw [Sem.run_bind, r_und ht]; rfl, by simp⟩
    · cases h; cases hy; obtain ⟨_, _, rfl, _⟩ := hx
      exact ⟨by unfold Op.equal Op.maxDepth Op.equalIn; rw [Sem.run_bind, r_und ht]; rfl, by simp⟩
    · cases h
  | ifc =>
    obtain ⟨e, ht⟩ : ∃ e, P.underlying t = some (.interface e) := by
      revert hk; unfold ckBK; cases hu : P.underlying t with
      | none => intro hk; cases hk
      | some d => cases d <;> intro hk <;> first | exact ⟨_, rfl⟩ | cases hk
    simp only [eqs] at h
    split at h
    · cases h; cases hx; obtain ⟨_, rfl, _⟩ := hy
      exact ⟨by unfold Op.equal Op.maxDepth Op.equalIn; rw [Sem.run_bind, r_und ht]; rfl, by simp⟩
    · cases h; cases hy; obtain ⟨_, rfl, _⟩ := hx
      exact ⟨by unfold Op.equal Op.maxDepth Op.equalIn; rw [Sem.run_bind, r_und ht]; rfl, by simp⟩
    · cases h

theorem binOp_eql {t : TypeId} {x y : Value} (h1 : ∀ k n, x ≠ .int k n) (h2 : ∀ s, x ≠ .string s) (h3 : ∀ k n, x ≠ .float k n) (h4 : ∀ k n m, x ≠ .complex k n m) :
    binOp .eql t x y = (Op.equal t x y >>= fun b => pure (Value.bool b)) := by
  cases x <;> first | rfl | exact absurd rfl (h1 _ _) | exact absurd rfl (h2 _) | exact absurd rfl (h3 _ _) | exact absurd rfl (h4 _ _ _) | (cases y <;> rfl)
theorem binOp_neq {t : TypeId} {x y : Value} (h1 : ∀ k n, x ≠ .int k n) (h2 : ∀ s, x ≠ .string s) (h3 : ∀ k n, x ≠ .float k n) (h4 : ∀ k n m, x ≠ .complex k n m) :
    binOp .neq t x y = (Op.equal t x y >>= fun b => pure (Value.bool !b)) := by
  cases x <;> first | rfl | exact absurd rfl (h1 _ _) | exact absurd rfl (h2 _) | exact absurd rfl (h3 _ _) | exact absurd rfl (h4 _ _ _) | (cases y <;> rfl)

theorem eqFs_sound (d : Nat) {ws vs : Array Value} {xs ys : List V} (hx : RelL L ι xs ws.toList) (hy : RelL L ι ys vs.toList) : ∀ (fs : List (Nat × BK)) (g : List Field) (b : Bool), ckFs P fs g = true → eqAgg xs ys fs = some b → (Op.eqFields (d + 1) ws vs g).run P w = .ok b w
  | [], [], b, _, h => by cases h; simp [Op.eqFields]
  | [], _ :: _, _, hk, _ => by cases hk
  | _ :: _, [], _, hk, _ => by simp [ckFs] at hk
  | (o, k) :: r, f :: g, b, hk, h => by
    simp only [ckFs, Bool.and_eq_true, beq_iff_eq, bne_iff_ne, ne_eq] at hk
    obtain ⟨⟨⟨rfl, hn⟩, hu⟩, hr⟩ := hk
    simp only [eqAgg] at h
    split at h
    · rename_i a c ha hc
      split at h
      · rename_i e he
        simp only [Option.map_eq_some_iff] at h
        obtain ⟨e', h', rfl⟩ := h
        obtain ⟨a', ha', ra⟩ := RelL.get hx ha
        obtain ⟨c', hc', rc⟩ := RelL.get hy hc
        have ih := eqFs_sound d hx hy r g e' hr h'
        have ha2 : ws[f.offset]? = some a' := by rw [← Array.getElem?_toList]; exact ha'
        have hc2 : vs[f.offset]? = some c' := by rw [← Array.getElem?_toList]; exact hc'
        have hpe : P.plainKey f.type = true ∧ (Op.equalIn (d + 1) f.type a' c').run P w = .ok e w := by
          revert hu
          cases ht : P.underlying f.type with
          | none => intro hu; cases hu
          | some td =>
            cases td <;> intro hu <;> try cases hu
            · cases k <;> try cases hu
              simp only [eqF] at he
              split at he
              · cases he; cases ra; cases rc
                exact ⟨by simp [Program.plainKey, ht], run_equalIn_bool w d f.type _ _ ht⟩
              · cases he
            · cases k <;> try cases hu
              simp only [eqF] at he
              split at he
              · split at he
                · rename_i hkk; subst hkk; cases he; cases ra; cases rc
                  refine ⟨by simp [Program.plainKey, ht], ?_⟩
                  rw [run_equalIn_int w d f.type _ _ _ _ ht]
                  rfl
                · cases he
              · cases he
        simp only [Op.eqFields, hn, ne_eq, not_false_eq_true, if_true, Sem.run_bind, run_part_plain w hpe.1 ha2, run_part_plain w hpe.1 hc2, hpe.2, Result.andThen_ok]
        cases e
        · simp
        · simpa using ih
      · cases h
    · cases h
theorem agg_sound {fs : List (Nat × BK)} {t : TypeId} {x y : V} {x' y' : Value} {b : Bool} {op : BinOp} {X Y : Operand} (hk : ckBK P t (.agg fs) = true) (h : equals x y (.agg fs) = some b) (hx : Rel L ι x x') (hy : Rel L ι y y') :
    (eqGuard op t X Y x' y').run P w = .ok () w ∧ (Op.equal t x' y').run P w = .ok b w ∧ (∀ k n, x' ≠ .int k n) ∧ (∀ s, x' ≠ .string s) ∧ (∀ k n, x' ≠ .float k n) ∧ (∀ k n m, x' ≠ .complex k n m) := by
  have hs : ∃ xs ys, x = .agg xs ∧ y = .agg ys := by
    cases x <;> first | (simp [equals] at h; done) | skip
    cases y <;> first | (simp [equals] at h; done) | exact ⟨_, _, rfl, rfl⟩
  obtain ⟨xs, ys, rfl, rfl⟩ := hs
  replace h : eqAgg xs ys fs = some b := h
  obtain ⟨ws, rfl, rx⟩ := hx
  obtain ⟨vs, rfl, ry⟩ := hy
  unfold ckBK at hk
  cases hu : P.underlying t with
  | none => rw [hu] at hk; cases hk
  | some td =>
    rw [hu] at hk
    cases td <;> try (simp at hk; done)
    rename_i g
    simp only [Bool.and_eq_true, Bool.not_eq_true'] at hk
    obtain ⟨⟨h1, h2⟩, h3⟩ := hk
    have hf : P.fieldsOf t = g := by simp [Program.fieldsOf, hu]
    refine ⟨?_, ?_, by simp, by simp, by simp, by simp⟩
    · cases op <;> first | rfl | simp [eqGuard, h3]
    · show (Op.equalIn (9998 + 1 + 1) t _ _).run P w = _
      rw [run_equalIn_struct w (9998 + 1) t ws vs (by rw [hf]; exact hu) h2, hf]
      exact eqFs_sound 9998 rx ry fs g.toList b h1 h
theorem bin_sound {op : BinOp} {k : BK} {t : TypeId} {x y v : V} {x' y' : Value} {X Y : Operand} (hk : ckBK P t k = true) (h : bin op k x y = some v) (hx : Rel L ι x x') (hy : Rel L ι y y') :
    ∃ v', (do eqGuard op t X Y x' y'; binOp op t x' y' : Sem Value).run P w = .ok v' w ∧ Rel L ι v v' := by
  have fin : ∀ {v' : Value}, (binOp op t x' y').run P w = .ok v' w → (∀ l, x' ≠ .agg l) → (x' ≠ .nilIface ∨ y' ≠ .nilIface) → (do eqGuard op t X Y x' y'; binOp op t x' y' : Sem Value).run P w = .ok v' w := by
    intro v' h1 h2 h3; rw [Sem.run_bind, eqGuard_pure h2 h3]; exact h1
  by_cases hn : k = .num
  · subst hn
    simp only [bin] at h
    split at h
    · rename_i k1 a k2 b
      cases hx; cases hy
      have e1 : ∀ l, (Value.int k1 a) ≠ .agg l := by simp
      have e2 : (Value.int k1 a) ≠ .nilIface ∨ (Value.int k2 b) ≠ .nilIface := by simp
      split at h
      · split at h
        · cases h
        · rename_i hb; cases h; exact ⟨_, fin (by simp [binOp, Op.shift, hb]; rfl) e1 e2, rfl⟩
      · split at h
        · cases h
        · rename_i hb; cases h; exact ⟨_, fin (by simp [binOp, Op.shift, hb]; rfl) e1 e2, rfl⟩
      · rename_i n1 n2
        split at h
        · rename_i hkk; subst hkk
          obtain ⟨v', h1, h2⟩ := arith_sound (L := L) (ι := ι) (P := P) (w := w) (t := t) n1 n2 h
          exact ⟨v', fin h1 e1 e2, h2⟩
        · cases h
    · rename_i a b
      cases hx; cases hy
      have e1 : ∀ l, (Value.string a) ≠ .agg l := by simp
      have e2 : (Value.string a) ≠ .nilIface ∨ (Value.string b) ≠ .nilIface := by simp
      split at h
      · cases h; refine ⟨_, fin (v' := .bool (decide (a.toList = b.toList))) ?_ e1 e2, rfl⟩
        show (Op.stringOp .eql a b).run P w = _
        unfold Op.stringOp; exact bool_ok (by rw [Bool.eq_iff_iff]; simp)
      · cases h; refine ⟨_, fin (v' := .bool (decide (a.toList ≠ b.toList))) ?_ e1 e2, rfl⟩
        show (Op.stringOp .neq a b).run P w = _
        unfold Op.stringOp; exact bool_ok (by rw [Bool.eq_iff_iff]; simp)
      · cases h
    · cases h
  by_cases hg : ∃ fs, k = .agg fs
  · obtain ⟨fs, rfl⟩ := hg
    cases op
    case eql =>
      have hb : bin .eql (.agg fs) x y = (equals x y (.agg fs)).map .bool := rfl
      rw [hb] at h
      simp only [Option.map_eq_some_iff] at h
      obtain ⟨b, h1, rfl⟩ := h
      obtain ⟨f1, f2, f4, f5, f6, f7⟩ := agg_sound (w := w) (op := .eql) (X := X) (Y := Y) hk h1 hx hy
      exact ⟨_, by rw [Sem.run_bind, f1]; show (binOp .eql t x' y').run P w = _; rw [binOp_eql f4 f5 f6 f7, Sem.run_bind, f2]; rfl, rfl⟩
    case neq =>
      have hb : bin .neq (.agg fs) x y = (equals x y (.agg fs)).map fun b => .bool !b := rfl
      rw [hb] at h
      simp only [Option.map_eq_some_iff] at h
      obtain ⟨b, h1, rfl⟩ := h
      obtain ⟨f1, f2, f4, f5, f6, f7⟩ := agg_sound (w := w) (op := .neq) (X := X) (Y := Y) hk h1 hx hy
      exact ⟨_, by rw [Sem.run_bind, f1]; show (binOp .neq t x' y').run P w = _; rw [binOp_neq f4 f5 f6 f7, Sem.run_bind, f2]; rfl, rfl⟩
    all_goals cases h
  · have he : ∀ b, equals x y k = some b → eqs x y k = some b := by
      intro b hb; cases k <;> first | exact hb | exact absurd ⟨_, rfl⟩ hg
    cases op
    case eql =>
      have hb : bin .eql k x y = (equals x y k).map .bool := by cases k <;> first | rfl | exact absurd rfl hn
      rw [hb] at h
      simp only [Option.map_eq_some_iff] at h
      obtain ⟨b, h1, rfl⟩ := h
      obtain ⟨f1, f2, f3, f4, f5, f6, f7⟩ := eqs_sound (w := w) hk hn (he b h1) hx hy
      exact ⟨_, fin (by rw [binOp_eql f4 f5 f6 f7, Sem.run_bind, f1]; rfl) f2 f3, rfl⟩
    case neq =>
      have hb : bin .neq k x y = (equals x y k).map fun b => .bool !b := by cases k <;> first | rfl | exact absurd rfl hn
      rw [hb] at h
      simp only [Option.map_eq_some_iff] at h
      obtain ⟨b, h1, rfl⟩ := h
      obtain ⟨f1, f2, f3, f4, f5, f6, f7⟩ := eqs_sound (w := w) hk hn (he b h1) hx hy
      exact ⟨_, fin (by rw [binOp_neq f4 f5 f6 f7, Sem.run_bind, f1]; rfl) f2 f3, rfl⟩
    all_goals (cases k <;> first | exact absurd rfl hn | cases h)

theorem unop_sound {op : UnOp} {x v : V} {x' : Value} (h : unop op x = some v) (hx : Rel L ι x x') : ∃ v', (Op.unary op x').run P w = .ok v' w ∧ Rel L ι v v' := by
  unfold unop at h
  split at h
  · cases h; cases hx; exact ⟨_, by simp [Op.unary, Op.intArith], rfl⟩
  · cases h; cases hx; exact ⟨_, by simp only [Op.unary]; exact bitop_sound (by simp), rfl⟩
  · cases h; cases hx; exact ⟨_, rfl, rfl⟩
  · cases h

end Go.Ab
namespace Go.Ab
variable {L : Lk} {ι : Im} {H : Heap} {w : World} {P : Program}
theorem and2 {a b : Bool} (h : (a && b) = true) : a = true ∧ b = true := by simpa using h

theorem bound_sound {x : Option V} {x' : Option Value} {d y n y' : Nat} {code : BoundsCode} (hr : ∀ v, x = some v → ∃ v', x' = some v' ∧ Rel L ι v v') (hn : x = none → x' = none) (h : bound x d y = some n) (hy : y ≤ y') :
    (x = none ∧ x' = none ∧ n = d) ∨ ∃ v', x' = some v' ∧ (Instr.sliceBound v' y' code).run P w = .ok n w ∧ n ≤ y := by
  unfold bound at h
  split at h
  · cases h; exact .inl ⟨rfl, hn rfl, rfl⟩
  · rename_i k i
    split at h
    · rename_i hi
      cases h
      obtain ⟨v', h1, h2⟩ := hr _ rfl
      cases h2
      refine .inr ⟨_, h1, ?_, by omega⟩
      unfold Instr.sliceBound
      simp only [asIntOf, Sem.run_bind, Sem.run_pure, Result.andThen_ok, Sem.run_ite]
      rw [if_pos (by omega)]
    · cases h
  · cases h

theorem bound_some_le {v : V} {d y n : Nat} (h : bound (some v) d y = some n) : n ≤ y := by
  cases v <;> simp only [bound] at h <;> first | (split at h <;> first | (cases h; omega) | cases h) | cases h

theorem bound_le {x : Option V} {d y n : Nat} (h : bound x d y = some n) (hd : d ≤ y) : n ≤ y := by
  cases x with
  | none => cases h; exact hd
  | some v => exact bound_some_le h

theorem optd_rel {fr : Fr} {a : Act} (hf : FrRel L ι fr a.tmps) {x : Option Opd} {y : Option Operand} {r : Option V} (hc : ckOpt L x y = true) (h : optd fr x = some r) :
    (∀ v, r = some v → ∃ v', y.map a.eval = some v' ∧ Rel L ι v v') ∧ (r = none → y.map a.eval = none) := by
  cases x with
  | none =>
    cases y with
    | none => cases h; exact ⟨(fun v e => by cases e), fun _ => rfl⟩
    | some y => simp [ckOpt] at hc
  | some x =>
    cases y with
    | none => simp [ckOpt] at hc
    | some y =>
      simp only [optd, Option.map_eq_some_iff] at h
      obtain ⟨v, h1, rfl⟩ := h
      exact ⟨(fun u e => by cases e; exact ⟨_, rfl, opd_rel hf hc h1⟩), (fun e => by cases e)⟩

theorem slice_bounds {lo hi mx : Option V} {lo' hi' mx' : Option Value} {len cap cap' m h l : Nat} (hcap : cap ≤ cap') (hlen : len ≤ cap)
    (l1 : ∀ v, lo = some v → ∃ v', lo' = some v' ∧ Rel L ι v v') (l2 : lo = none → lo' = none) (h1 : ∀ v, hi = some v → ∃ v', hi' = some v' ∧ Rel L ι v v') (h2 : hi = none → hi' = none)
    (m1 : ∀ v, mx = some v → ∃ v', mx' = some v' ∧ Rel L ι v v') (m2 : mx = none → mx' = none) (hm3 : hi = none → mx = none)
    (e1 : bound mx cap cap = some m) (e2 : bound hi len m = some h) (e3 : bound lo 0 h = some l) :
    ∃ m', (Instr.sliceBounds true len cap' lo' hi' mx').run P w = .ok (l, h, m') w ∧ l ≤ h ∧ h ≤ m ∧ m ≤ cap ∧ m ≤ m' ∧ m' ≤ cap' := by
  have hb3 : l ≤ h := bound_le e3 (Nat.zero_le _)
  have hlo : ∀ code, (match lo' with | some v => Instr.sliceBound v h code | none => pure 0 : Sem Nat).run P w = .ok l w := fun code => by
    rcases bound_sound (P := P) (w := w) (code := code) l1 l2 e3 (Nat.le_refl _) with ⟨_, h0, rfl⟩ | ⟨v', h0, hr, _⟩
    · rw [h0]; rfl
    · rw [h0]; exact hr
  cases mx with
  | none =>
    have hmx := m2 rfl
    subst hmx
    cases e1
    have hb2 : h ≤ cap := bound_le e2 hlen
    refine ⟨cap', ?_, hb3, hb2, Nat.le_refl _, hcap, Nat.le_refl _⟩
    unfold Instr.sliceBounds
    rcases bound_sound (P := P) (w := w) (code := .sliceAcap) h1 h2 e2 hcap with ⟨_, h0, rfl⟩ | ⟨v', h0, hr, _⟩
    · subst h0; simp only [Sem.run_bind, Sem.run_pure, Result.andThen_ok]
      have := hlo .sliceB
      cases lo' <;> simp_all
    · subst h0; simp only [Sem.run_bind, Sem.run_pure, Result.andThen_ok, if_true, hr]
      have := hlo .sliceB
      cases lo' <;> simp_all
  | some mv =>
    obtain ⟨mv', rfl, hmr⟩ := m1 _ rfl
    cases hi with
    | none => exact absurd (hm3 rfl) (by simp)
    | some hv =>
      obtain ⟨hv', rfl, hhr⟩ := h1 _ rfl
      have hbm : m ≤ cap := bound_some_le e1
      have hb2 : h ≤ m := bound_some_le e2
      refine ⟨m, ?_, hb3, hb2, hbm, Nat.le_refl _, by omega⟩
      unfold Instr.sliceBounds
      rcases bound_sound (P := P) (w := w) (code := .slice3Acap) m1 m2 e1 hcap with ⟨h0, _, _⟩ | ⟨v', h0, hr, _⟩
      · cases h0
      · cases h0
        rcases bound_sound (P := P) (w := w) (code := .slice3B) h1 h2 e2 (Nat.le_refl _) with ⟨h0, _, _⟩ | ⟨v'', h0, hr2, _⟩
        · cases h0
        · cases h0
          simp only [Sem.run_bind, Result.andThen_ok, if_true, hr, hr2]
          have := hlo .slice3C
          cases lo' <;> simp_all

theorem piece_rel {cs : List V} {vs : List Value} {o n : Nat} {l : List V} (h : RelL L ι cs vs) (hp : piece cs o n = some l) : RelL L ι l ((vs.drop o).take n) := by
  unfold piece at hp; split at hp
  · cases hp; exact (h.drop o).take n
  · cases hp

/-- 'part': a struct's, an array's part. -/
theorem part_sound {t : TypeId} {cs : List V} {vs : Array Value} {o : Nat} {n : Option Nat} {v : V} (hc : ckAgg P t n = true) (h : RelL L ι cs vs.toList)
    (hv : partV cs o n = some v) : ∃ v', (part t vs o).run P w = .ok v' w ∧ Rel L ι v v' := by
  unfold ckAgg at hc
  split at hc
  · rename_i d hd
    cases n with
    | none =>
      simp only [Bool.not_eq_true'] at hc
      obtain ⟨v', h1, h2⟩ := h.get hv
      refine ⟨v', ?_, h2⟩
      rw [Array.getElem?_toList] at h1
      unfold part; rw [Sem.run_bind, r_isAgg hd, hc]; simp [h1]
    | some n =>
      obtain ⟨ha, hi⟩ := and2 hc
      simp only [Option.any_eq_true, beq_iff_eq] at hi
      obtain ⟨i, hi1, hi2⟩ := hi
      simp only [partV, Option.map_eq_some_iff] at hv
      obtain ⟨l, hp, rfl⟩ := hv
      refine ⟨.agg (vs.extract o (o + n)), ?_, _, rfl, ?_⟩
      · unfold part; rw [Sem.run_bind, r_isAgg hd, ha]; simp [r_size hi1, hi2]
      · have := piece_rel h hp
        rw [Array.toList_extract, List.extract_eq_take_drop, show o + n - o = n by omega]; exact this
  · cases hc

theorem mm_sound {mx : Bool} : ∀ {r : List V} {ys : List Value} {x v : V} {x' : Value}, mms mx x r = some v → Rel L ι x x' → RelL L ι r ys →
    ∃ v', (ys.foldlM (if mx then Builtin.max2 else Builtin.min2) x').run P w = .ok v' w ∧ Rel L ι v v'
  | [], ys, x, v, x', h, hx, hr => by rw [show ys = [] from hr]; cases h; exact ⟨x', rfl, hx⟩
  | y :: r, ys, x, v, x', h, hx, ⟨y', s, e, hy, hr⟩ => by
    subst e
    simp only [mms] at h
    split at h
    · rename_i z hz
      unfold mm2 at hz
      split at hz
      · split at hz
        · rename_i hk; subst hk
          cases hz; cases hx; cases hy
          obtain ⟨v', h1, h2⟩ := mm_sound (mx := mx) h rfl hr
          refine ⟨v', ?_, h2⟩
          rw [List.foldlM_cons, Sem.run_bind]
          cases mx <;> simpa [Builtin.max2, Builtin.min2] using h1
        · cases hz
      · cases hz
    · cases h

/-- 'fill', over places that are told. -/
theorem over_rel {cells vs : List V} {ws xs : List Value} {o : Nat} (h : RelL L ι cells ws) (k : RelL L ι vs xs) : RelL L ι (over cells o vs) (ws.take o ++ xs ++ ws.drop (o + vs.length)) := by
  unfold over; exact ((h.take o).append k).append (h.drop _)

theorem foldl_set : ∀ (xs : List Value) (cells : Array Value) (o i : Nat), o + i + xs.length ≤ cells.size →
    ((xs.zipIdx i).foldl (fun cs (c, j) => cs.setIfInBounds (o + j) c) cells) = (cells.toList.take (o + i) ++ xs ++ cells.toList.drop (o + i + xs.length)).toArray
  | [], cells, o, i, _ => by simp
  | x :: xs, cells, o, i, h => by
    simp only [List.zipIdx_cons, List.foldl_cons, List.length_cons] at h ⊢
    rw [foldl_set xs _ o (i + 1) (by simp; omega)]
    congr 1
    simp only [Array.toList_setIfInBounds]
    have hlt : o + i < cells.toList.length := by simp; omega
    rw [List.drop_set, if_pos (by omega), ← Nat.add_assoc, List.take_add_one, List.take_set_of_le (Nat.le_refl _), List.getElem?_set_self hlt]
    simp only [Option.toList_some, List.append_assoc, List.singleton_append, List.cons_append, List.nil_append]
    rw [show o + i + 1 + xs.length = o + i + (xs.length + 1) by omega]

theorem fill_sound {place : Nat → Option (Nat × Nat)} : ∀ {ps : List (Nat × Nat × V)} {qs : List (Nat × Value)} {cells cs : List V} {arr : Array Value},
    ps.length = qs.length → (∀ (j : Nat) (o n : Nat) (v : V) (i : Nat) (x : Value), ps[j]? = some (o, n, v) → qs[j]? = some (i, x) → 0 < n ∧ place i = some (o, n) ∧ Rel L ι v x) →
    RelL L ι cells arr.toList → fillA cells ps = some cs → ∃ arr', Instr.fill place arr qs = some arr' ∧ RelL L ι cs arr'.toList
  | [], qs, cells, cs, arr, hl, _, hr, h => by
    have : qs = [] := List.eq_nil_of_length_eq_zero (by simpa using hl.symm)
    subst this; cases h; exact ⟨arr, rfl, hr⟩
  | (o, n, v) :: ps, [], cells, cs, arr, hl, _, _, _ => by simp at hl
  | (o, n, v) :: ps, (i, x) :: qs, cells, cs, arr, hl, hp, hr, h => by
    obtain ⟨hn, hpl, hv⟩ := hp 0 o n v i x rfl rfl
    simp only [fillA] at h
    split at h
    · rename_i hlen
      have hc := hv.cells (by omega)
      have hcl := hc.length
      have hal := hr.length
      have hxs : x.cells.size = n := by rw [← Array.length_toList, ← hcl, hlen.1]
      have hal' : cells.length = arr.size := by rw [hal, Array.length_toList]
      obtain ⟨arr', h1, h2⟩ := fill_sound (place := place) (ps := ps) (qs := qs) (cells := over cells o v.cells) (arr := (arr.toList.take o ++ x.cells.toList ++ arr.toList.drop (o + v.cells.length)).toArray)
        (by simpa using hl) (fun j o n v i x e1 e2 => hp (j + 1) o n v i x (by simpa using e1) (by simpa using e2)) (by simpa using over_rel hr hc) h
      refine ⟨arr', ?_, h2⟩
      rw [← h1]
      simp only [Instr.fill, hpl]
      rw [if_neg (by simp [hxs]; omega)]
      congr 1
      have := foldl_set x.cells.toList arr o 0 (by simp [hxs]; omega)
      rw [← Array.foldl_toList, Array.toList_zipIdx, this]
      simp [hcl]
    · cases h

end Go.Ab
namespace Go.Ab
variable {L : Lk} {ι : Im} {H : Heap} {w : World} {P : Program} {fr : Fr} {a : Act}
/-- What is shown of each. -/
def QS (L : Lk) (P : Program) (ι : Im) (H : Heap) (w : World) (fr : Fr) (a : Act) (p : AOp) (o : Oper) : Prop :=
  ∀ v H', ckQ L P p o.op = true → step fr H p = some (v, H') → H' = H ∧ ∃ v', Yld P o a w v' ∧ Rel L ι v v'

section
variable (hf : FrRel L ι fr a.tmps) (s : Sim L ι H w)
include hf
theorem qs_mv (x : Opd) (o : Oper) : QS L P ι H w fr a (.mv x) o := by
  intro v H' hc h
  obtain ⟨d, op, ty, pos, af, g⟩ := o
  simp only [step, Option.map_eq_some_iff] at h
  obtain ⟨u, h1, h2⟩ := h; cases h2
  cases op <;> simp only [ckQ] at hc <;> first | cases hc | exact ⟨rfl, _, rfl, opd_rel hf hc h1⟩

theorem qs_pick (c x y : Opd) (o : Oper) : QS L P ι H w fr a (.pick c x y) o := by
  intro v H' hc h
  obtain ⟨d, op, ty, pos, af, g⟩ := o
  cases op <;> simp only [ckQ] at hc <;> try cases hc
  rename_i c' x' y'
  simp only [Bool.and_eq_true] at hc
  simp only [step] at h
  split at h
  · rename_i t ht
    simp only [Option.map_eq_some_iff] at h
    obtain ⟨u, h1, h2⟩ := h; cases h2
    have hb := opd_rel hf hc.1.1 ht
    refine ⟨rfl, if t then a.eval x' else a.eval y', ?_, ?_⟩
    · show (Sem.run P _ w) = _
      simp only [execOp, show a.eval c' = .bool t from hb, asBool]
      cases t <;> rfl
    · cases t
      · exact opd_rel hf hc.2 h1
      · exact opd_rel hf hc.1.2 h1
  · cases h

theorem qs_bin (b : BinOp) (k : BK) (x y : Opd) (o : Oper) : QS L P ι H w fr a (.bin b k x y) o := by
  intro v H' hc h
  obtain ⟨d, op, ty, pos, af, g⟩ := o
  cases op <;> simp only [ckQ] at hc <;> try cases hc
  rename_i b' t x' y' yt
  simp only [Bool.and_eq_true, decide_eq_true_eq] at hc
  obtain ⟨⟨⟨rfl, hk⟩, hx⟩, hy⟩ := hc
  simp only [step] at h
  split at h
  · rename_i u1 u2 e1 e2
    simp only [Option.map_eq_some_iff] at h
    obtain ⟨u, h1, h2⟩ := h; cases h2
    obtain ⟨v', r1, r2⟩ := bin_sound (P := P) (w := w) (X := x') (Y := y') hk h1 (opd_rel hf hx e1) (opd_rel hf hy e2)
    refine ⟨rfl, v', ?_, r2⟩
    show (Sem.run P _ w) = _
    simp only [execOp, Sem.run_bind] at r1 ⊢
    rw [r1]; rfl
  · cases h

theorem qs_un (b : UnOp) (x : Opd) (o : Oper) : QS L P ι H w fr a (.un b x) o := by
  intro v H' hc h
  obtain ⟨d, op, ty, pos, af, g⟩ := o
  cases op <;> simp only [ckQ] at hc <;> try cases hc
  simp only [Bool.and_eq_true, decide_eq_true_eq] at hc
  obtain ⟨rfl, hx⟩ := hc
  simp only [step] at h
  split at h
  · rename_i u1 e1
    simp only [Option.map_eq_some_iff] at h
    obtain ⟨u, h1, h2⟩ := h; cases h2
    obtain ⟨v', r1, r2⟩ := unop_sound (P := P) (w := w) h1 (opd_rel hf hx e1)
    exact ⟨rfl, v', by show (Sem.run P _ w) = _; simp only [execOp, Sem.run_bind, r1]; rfl, r2⟩
  · cases h

theorem qs_conv (k : IntKind) (x : Opd) (o : Oper) : QS L P ι H w fr a (.conv k x) o := by
  intro v H' hc h
  obtain ⟨d, op, ty, pos, af, g⟩ := o
  cases op <;> simp only [ckQ] at hc <;> try cases hc
  rename_i src dst x'
  obtain ⟨hc, hx⟩ := and2 hc
  simp only [step] at h
  split at h
  · rename_i k0 n e1
    cases h
    split at hc
    · rename_i k1 k2 hs hd
      simp only [decide_eq_true_eq] at hc; subst hc
      refine ⟨rfl, _, ?_, rfl⟩
      show (Sem.run P _ w) = _
      have e : a.eval x' = .int k0 n := opd_rel hf hx e1
      simp only [execOp, convert, e, Sem.run_bind, r_und hs, r_und hd, Result.andThen_ok]
      rfl
    · cases hc
  · cases h

theorem qs_fad (off : Nat) (x : Opd) (o : Oper) : QS L P ι H w fr a (.fad off x) o := by
  intro v H' hc h
  obtain ⟨d, op, ty, pos, af, g⟩ := o
  cases op <;> simp only [ckQ] at hc <;> try cases hc
  rename_i st x' f
  obtain ⟨hc, hx⟩ := and2 hc
  simp only [step] at h
  split at h
  · rename_i b q e1
    cases h
    split at hc
    · rename_i fs hs
      simp only [Option.any_eq_true, Bool.and_eq_true, beq_iff_eq, bne_iff_ne] at hc
      obtain ⟨fl, h1, h2, i, h3, h4⟩ := hc
      obtain ⟨c, p, z, e, e2⟩ := opd_rel hf hx e1
      refine ⟨rfl, .pointer (some ⟨c, p + q + off, none⟩), ?_, c, p, z, e, by rw [Nat.add_assoc]⟩
      show (Sem.run P _ w) = _
      simp only [execOp, Instr.fieldAt, e2, Instr.sureAddr, Sem.run_bind, r_und hs, Result.andThen_ok, h1, fieldPlace, r_size h3, Sem.run_pure, Sem.run_ite, h4, if_false, h2, add_at]
    · cases hc
  · cases h

theorem qs_fld (off : Nat) (n : Option Nat) (x : Opd) (o : Oper) : QS L P ι H w fr a (.fld off n x) o := by
  intro v H' hc h
  obtain ⟨d, op, ty, pos, af, g⟩ := o
  cases op <;> simp only [ckQ] at hc <;> try cases hc
  rename_i st x' f
  obtain ⟨hc, hx⟩ := and2 hc
  simp only [step] at h
  split at h
  · rename_i cs e1
    split at hc
    · rename_i fs hs
      simp only [Option.any_eq_true, Bool.and_eq_true, beq_iff_eq] at hc
      obtain ⟨fl, h1, h2, h3⟩ := hc
      obtain ⟨vs, e2, hr⟩ := opd_rel hf hx e1
      simp only [Option.map_eq_some_iff] at h
      obtain ⟨u, k1, k2⟩ := h; cases k2
      obtain ⟨v', r1, r2⟩ := part_sound (P := P) (w := w) h3 hr k1
      refine ⟨rfl, v', ?_, r2⟩
      show (Sem.run P _ w) = _
      simp only [execOp, Instr.field, e2, asAgg, Sem.run_bind, r_und hs, Result.andThen_ok, h1, Sem.run_pure, h2, r1]
    · cases hc
  · cases h

theorem qs_iad (arr : Option Nat) (esz : Nat) (x i : Opd) (o : Oper) : QS L P ι H w fr a (.iad arr esz x i) o := by
  intro v H' hc h
  obtain ⟨d, op, ty, pos, af, g⟩ := o
  cases arr with
  | none =>
    cases op <;> simp only [ckQ] at hc <;> try cases hc
    rename_i t x' i'
    obtain ⟨hc, hi⟩ := and2 hc
    obtain ⟨hc, hx⟩ := and2 hc
    obtain ⟨e, inf, hu, hinf, hsz⟩ := ckEl_spec hc
    simp only [step] at h
    split at h
    · rename_i b q k j e1 e2; cases h
    · rename_i b q len cap ez k j e1 e2
      split at h
      · rename_i hez; subst hez
        split at h
        · rename_i hj
          cases h
          obtain ⟨hl, A, cap', g2, g3, gg⟩ := opd_rel hf hx e1
          obtain ⟨c, p, z, r, g1, rfl, g4, g5⟩ := gg (by omega)
          have hj' : a.eval i' = .int k j := opd_rel hf hi e2
          have hr := g5 (by omega)
          refine ⟨rfl, .pointer (some ⟨c, p + q + j.toNat * ez, none⟩), ?_, c, p, z, g1, by rw [Nat.add_assoc]⟩
          show (Sem.run P _ w) = _
          simp only [execOp, Instr.indexAt, g2, hj', asIntOf, Sem.run_bind, r_und hu, Result.andThen_ok, Sem.run_pure, Sem.run_ite, r_size hinf, hsz, add_at]
          rw [if_pos hj, hr]; rfl
        · cases h
      · cases h
    · cases h
  | some m =>
    cases op <;> simp only [ckQ] at hc <;> try cases hc
    rename_i t x' i'
    obtain ⟨hc, hi⟩ := and2 hc
    obtain ⟨hc, hx⟩ := and2 hc
    simp only [step] at h
    split at hc
    · rename_i n e hu
      simp only [Bool.and_eq_true, beq_iff_eq, Option.any_eq_true] at hc
      obtain ⟨rfl, inf, hinf, hsz⟩ := hc
      split at h
      · rename_i b q k j e1 e2
        split at h
        · rename_i hj
          cases h
          obtain ⟨c, p, z, g1, g2⟩ := opd_rel hf hx e1
          have hj' : a.eval i' = .int k j := opd_rel hf hi e2
          refine ⟨rfl, .pointer (some ⟨c, p + q + j.toNat * esz, none⟩), ?_, c, p, z, g1, by rw [Nat.add_assoc]⟩
          show (Sem.run P _ w) = _
          simp only [execOp, Instr.indexAt, g2, hj', asIntOf, Instr.sureAddr, Sem.run_bind, r_und hu, Result.andThen_ok, Sem.run_pure, Sem.run_ite, r_size hinf, hsz, add_at]
          rw [if_pos hj]; rfl
        · cases h
      · rename_i b q len cap ez k j e1 e2; cases h
      · cases h
    · cases hc

theorem qs_idx (arr : Option Nat) (esz : Nat) (n : Option Nat) (x i : Opd) (o : Oper) : QS L P ι H w fr a (.idx arr esz n x i) o := by
  intro v H' hc h
  obtain ⟨d, op, ty, pos, af, g⟩ := o
  cases arr with
  | none =>
    cases op <;> simp only [ckQ] at hc <;> try cases hc
    rename_i t x' i'
    obtain ⟨hc, hi⟩ := and2 hc
    obtain ⟨hc, hx⟩ := and2 hc
    simp only [step] at h
    split at hc
    · rename_i hu
      split at h
      · rename_i cs k j e1 e2; cases h
      · rename_i st k j e1 e2
        split at h
        · rename_i hj
          simp only [Option.map_eq_some_iff] at h
          obtain ⟨u, h1, h2⟩ := h; cases h2
          have ex : a.eval x' = .string st := opd_rel hf hx e1
          have ej : a.eval i' = .int k j := opd_rel hf hi e2
          refine ⟨rfl, .int .u8 u.toNat, ?_, rfl⟩
          show (Sem.run P _ w) = _
          simp only [execOp, Instr.index, ex, ej, asIntOf, Sem.run_bind, r_und hu, Result.andThen_ok, Sem.run_pure, hj, if_true, h1]
        · cases h
      · cases h
    · cases hc
  | some m =>
    cases op <;> simp only [ckQ] at hc <;> try cases hc
    rename_i t x' i'
    obtain ⟨hc, hi⟩ := and2 hc
    obtain ⟨hc, hx⟩ := and2 hc
    simp only [step] at h
    split at hc
    · rename_i k0 e hu
      simp only [Bool.and_eq_true, beq_iff_eq, Option.any_eq_true] at hc
      obtain ⟨⟨rfl, hag⟩, inf, hinf, hsz⟩ := hc
      split at h
      · rename_i cs k j e1 e2
        split at h
        · rename_i hj
          obtain ⟨vs, ex, hr⟩ := opd_rel hf hx e1
          have ej : a.eval i' = .int k j := opd_rel hf hi e2
          simp only [Option.map_eq_some_iff] at h
          obtain ⟨u, k1, k2⟩ := h; cases k2
          obtain ⟨v', r1, r2⟩ := part_sound (P := P) (w := w) hag hr k1
          refine ⟨rfl, v', ?_, r2⟩
          show (Sem.run P _ w) = _
          simp only [execOp, Instr.index, ex, ej, asIntOf, Sem.run_bind, r_und hu, Result.andThen_ok, Sem.run_pure, Sem.run_ite, r_size hinf, hsz, r1]
          rw [if_pos hj]; rfl
        · cases h
      · rename_i st k j e1 e2; cases h
      · cases h
    · cases hc

theorem qs_slice (esz : Nat) (x : Opd) (lo hi mx : Option Opd) (o : Oper) : QS L P ι H w fr a (.slice esz x lo hi mx) o := by
  intro v H' hc h
  obtain ⟨d, op, ty, pos, af, g⟩ := o
  cases op <;> simp only [ckQ] at hc <;> try cases hc
  rename_i t x' lo' hi' mx'
  simp only [Bool.and_eq_true] at hc
  obtain ⟨⟨⟨⟨⟨hel, hx⟩, hl⟩, hh⟩, hm⟩, hm3⟩ := hc
  obtain ⟨e, inf, hu, hinf, hsz⟩ := ckEl_spec hel
  simp only [step] at h
  split at h
  · rename_i b len cap ez rlo rhi rmx e1 e2 e3 e4
    split at h
    · cases h
    · rename_i hez
      split at h
      · rename_i m hm1
        split at h
        · rename_i hh0 hh1
          split at h
          · rename_i l hl1
            obtain ⟨l1, l2⟩ := optd_rel hf hl e2
            obtain ⟨h1, h2⟩ := optd_rel hf hh e3
            obtain ⟨m1, m2⟩ := optd_rel hf hm e4
            have hm4 : rhi = none → rmx = none := by
              intro hn; subst hn
              cases hi with
              | some y => simp [optd] at e3
              | none => cases mx with
                | none => cases e4; rfl
                | some y => simp at hm3
            cases b with
            | none =>
              cases h
              obtain ⟨rfl, rfl, ex⟩ := opd_rel hf hx e1
              obtain ⟨m', r1, q1, q2, q3, q4, q5⟩ := slice_bounds (P := P) (w := w) (cap' := 0) (Nat.le_refl 0) (Nat.le_refl 0) l1 l2 h1 h2 m1 m2 hm4 hm1 hh1 hl1
              have : l = 0 ∧ hh0 = 0 ∧ m = 0 ∧ m' = 0 := by omega
              obtain ⟨rfl, rfl, rfl, rfl⟩ := this
              refine ⟨rfl, .slice none 0 0, ?_, rfl, rfl, rfl⟩
              show (Sem.run P _ w) = _
              simp only [execOp, Instr.sliceAt, Instr.slice, ex, Sem.run_bind, r_und hu, Result.andThen_ok, r1, r_size hinf, Sem.run_pure]
              rfl
            | some bo =>
              obtain ⟨b, q⟩ := bo
              cases h
              have hez' : ez = esz := by simpa using hez
              subst hez'
              obtain ⟨hlc, A, cap', ex, g3, gg⟩ := opd_rel hf hx e1
              obtain ⟨m', r1, q1, q2, q3, q4, q5⟩ := slice_bounds (P := P) (w := w) g3 hlc l1 l2 h1 h2 m1 m2 hm4 hm1 hh1 hl1
              rcases Nat.eq_zero_or_pos cap' with hc0 | hc0
              · have hml : m' = l := by omega
                refine ⟨rfl, .slice (some A) (hh0 - l) (m' - l), ?_, ?_⟩
                · show (Sem.run P _ w) = _
                  simp only [execOp, Instr.sliceAt, Instr.slice, ex, Sem.run_bind, r_und hu, Result.andThen_ok, r1, r_size hinf, hsz, Sem.run_pure, Option.map_some]
                  rw [if_pos hml]
                · exact ⟨by omega, A, m' - l, rfl, by omega, fun h => by omega⟩
              obtain ⟨c, p, z, r, g1, rfl, g4, g5⟩ := gg hc0
              refine ⟨rfl, .slice (some (if m' = l then ⟨c, r, none⟩ else ⟨c, r + l * ez, none⟩)) (hh0 - l) (m' - l), ?_, ?_⟩
              · show (Sem.run P _ w) = _
                simp only [execOp, Instr.sliceAt, Instr.slice, ex, Sem.run_bind, r_und hu, Result.andThen_ok, r1, r_size hinf, hsz, Sem.run_pure, Option.map_some, add_at]
                split <;> rfl
              · refine ⟨by omega, _, m' - l, rfl, by omega, fun _ => ⟨c, p, z, if m' = l then r else r + l * ez, g1, by split <;> rfl, ?_, fun hpos => ?_⟩⟩
                · split
                  · rename_i hml; subst hml; simp; exact Nat.le_trans (Nat.le_add_right _ _) g4
                  · have h2 : (l + (m' - l)) * ez ≤ cap' * ez := Nat.mul_le_mul_right _ (by omega)
                    rw [Nat.add_mul] at h2; omega
                · have hml : m' ≠ l := by omega
                  rw [if_neg hml, g5 (by omega), Nat.add_assoc]
          · cases h
        · cases h
      · cases h
  · cases h

theorem qs_substr (x : Opd) (lo hi : Option Opd) (o : Oper) : QS L P ι H w fr a (.substr x lo hi) o := by
  intro v H' hc h
  obtain ⟨d, op, ty, pos, af, g⟩ := o
  cases op <;> simp only [ckQ] at hc <;> try cases hc
  rename_i t x' lo' hi' mx'
  cases mx' with
  | some y => simp [ckQ] at hc
  | none =>
    simp only [ckQ, Bool.and_eq_true] at hc
    obtain ⟨⟨⟨hel, hx⟩, hl⟩, hh⟩ := hc
    simp only [step] at h
    split at hel
    · rename_i hu
      split at h
      · rename_i st rlo rhi e1 e2 e3
        split at h
        · rename_i hh0 hh1
          split at h
          · rename_i l hl1
            cases h
            obtain ⟨l1, l2⟩ := optd_rel hf hl e2
            obtain ⟨h1, h2⟩ := optd_rel hf hh e3
            have ex : a.eval x' = .string st := opd_rel hf hx e1
            have r1 : (Instr.sliceBounds false st.size st.size (lo'.map a.eval) (hi'.map a.eval) none).run P w = .ok (l, hh0, st.size) w := by
              unfold Instr.sliceBounds
              rcases bound_sound (P := P) (w := w) (code := .sliceAlen) h1 h2 hh1 (Nat.le_refl _) with ⟨_, k0, rfl⟩ | ⟨v', k0, hr, _⟩
              · rw [k0]
                rcases bound_sound (P := P) (w := w) (code := .sliceB) l1 l2 hl1 (Nat.le_refl _) with ⟨_, k1, rfl⟩ | ⟨v'', k1, hr1, _⟩
                · rw [k1]; rfl
                · rw [k1]; simp [hr1]
              · rw [k0]
                rcases bound_sound (P := P) (w := w) (code := .sliceB) l1 l2 hl1 (Nat.le_refl _) with ⟨_, k1, rfl⟩ | ⟨v'', k1, hr1, _⟩
                · rw [k1]; simp [hr]
                · rw [k1]; simp [hr, hr1]
            refine ⟨rfl, .string (st.extract l hh0), ?_, rfl⟩
            show (Sem.run P _ w) = _
            simp only [execOp, Instr.sliceAt, Instr.slice, ex, Sem.run_bind, r_und hu, Result.andThen_ok, Option.map_none, Option.isSome_none, Bool.false_eq_true, if_false, r1, Sem.run_pure]
          · cases h
        · cases h
      · cases h
    · cases hel

theorem qs_nilck (x : Opd) (o : Oper) : QS L P ι H w fr a (.nilck x) o := by
  intro v H' hc h
  obtain ⟨d, op, ty, pos, af, g⟩ := o
  cases op <;> simp only [ckQ] at hc <;> try cases hc
  rename_i x'
  simp only [step] at h
  split at h
  · rename_i b e1
    cases h
    obtain ⟨b, q⟩ := b
    obtain ⟨c, p, z, g1, g2⟩ := opd_rel hf hc e1
    refine ⟨rfl, _, ?_, c, p, z, g1, rfl⟩
    show (Sem.run P _ w) = _
    simp only [execOp, g2]; rfl
  · cases h

theorem qs_ext (i : Nat) (x : Opd) (o : Oper) : QS L P ι H w fr a (.ext i x) o := by
  intro v H' hc h
  obtain ⟨d, op, ty, pos, af, g⟩ := o
  cases op <;> simp only [ckQ] at hc <;> try cases hc
  rename_i x' j
  simp only [Bool.and_eq_true, beq_iff_eq] at hc
  obtain ⟨rfl, hx⟩ := hc
  simp only [step] at h
  split at h
  · rename_i l e1
    simp only [Option.map_eq_some_iff] at h
    obtain ⟨u, h1, h2⟩ := h; cases h2
    obtain ⟨vs, e, hr⟩ := opd_rel hf hx e1
    obtain ⟨v', r1, r2⟩ := hr.get h1
    rw [Array.getElem?_toList] at r1
    refine ⟨rfl, v', ?_, r2⟩
    show (Sem.run P _ w) = _
    simp only [execOp, e, Instr.extract, r1]; rfl
  · cases h

theorem qs_isnil (ne : Bool) (x : Opd) (o : Oper) : QS L P ι H w fr a (.isnil ne x) o := by
  intro v H' hc h
  obtain ⟨d, op, ty, pos, af, g⟩ := o
  cases op <;> simp only [ckQ] at hc <;> try cases hc
  rename_i op t x' y' yt
  simp only [Bool.and_eq_true, decide_eq_true_eq] at hc
  obtain ⟨⟨⟨hy, rfl⟩, hk⟩, hx⟩ := hc
  split at hy
  case h_2 => cases hy
  have hu : ∃ e, P.underlying t = some (.interface e) := by
    revert hk; unfold ckBK; cases hu : P.underlying t with
    | none => intro hk; cases hk
    | some d => cases d <;> intro hk <;> first | exact ⟨_, rfl⟩ | cases hk
  obtain ⟨e, ht⟩ := hu
  have eqn : ∀ x0 b, (Op.equal t x0 .nilIface).run P w = .ok b w → (x0 = .nilIface ∨ ∃ i y, x0 = .iface i y) → a.eval x' = x0 → (Sem.run P (execOp a.eval ⟨d, .binOp (if ne then .neq else .eql) t x' (.const .nilIface) yt, ty, pos, af, g⟩) w) = .ok (.value (.bool (if ne then !b else b))) w := by
    intro x0 b hb hx0 ev
    have hg : eqGuard (if ne then .neq else .eql) t x' (.const .nilIface) x0 .nilIface = pure () := by
      rcases hx0 with rfl | ⟨i, y, rfl⟩ <;> cases ne <;> simp [eqGuard]
    simp only [execOp, ev]
    show (Sem.run P _ w) = _
    rw [show a.eval (.const .nilIface) = .nilIface from rfl]
    simp only [Sem.run_bind, hg, Sem.run_pure, Result.andThen_ok]
    have h1 : ∀ k n, x0 ≠ .int k n := by rcases hx0 with rfl | ⟨i, y, rfl⟩ <;> simp
    have h2 : ∀ s, x0 ≠ .string s := by rcases hx0 with rfl | ⟨i, y, rfl⟩ <;> simp
    have h3 : ∀ k n, x0 ≠ .float k n := by rcases hx0 with rfl | ⟨i, y, rfl⟩ <;> simp
    have h4 : ∀ k n m, x0 ≠ .complex k n m := by rcases hx0 with rfl | ⟨i, y, rfl⟩ <;> simp
    cases ne
    · simp only [Bool.false_eq_true, if_false]
      rw [binOp_eql h1 h2 h3 h4, Sem.run_bind, hb]; rfl
    · simp only [if_true]
      rw [binOp_neq h1 h2 h3 h4, Sem.run_bind, hb]; rfl
  simp only [step] at h
  split at h
  · rename_i e1
    cases h
    have ev : a.eval x' = .nilIface := opd_rel hf hx e1
    refine ⟨rfl, .bool (!ne), ?_, rfl⟩
    have := eqn .nilIface true (by unfold Op.equal Op.maxDepth Op.equalIn; rw [Sem.run_bind, r_und ht]; rfl) (.inl rfl) ev
    cases ne <;> exact this
  · rename_i i y e1
    cases h
    obtain ⟨y', ev, _⟩ := opd_rel hf hx e1
    refine ⟨rfl, .bool ne, ?_, rfl⟩
    have := eqn (.iface (L.τ i) y') false (by unfold Op.equal Op.maxDepth Op.equalIn; rw [Sem.run_bind, r_und ht]; rfl) (.inr ⟨_, _, rfl⟩) ev
    cases ne <;> exact this
  · cases h

theorem qs_asrt (t : Nat) (x : Opd) (o : Oper) : QS L P ι H w fr a (.asrt t x) o := by
  intro v H' hc h
  obtain ⟨d, op, ty, pos, af, g⟩ := o
  cases op <;> simp only [ckQ] at hc <;> try cases hc
  rename_i x' s' t' ok
  simp only [Bool.and_eq_true, beq_iff_eq] at hc
  obtain ⟨⟨⟨rfl, rfl⟩, ht⟩, hx⟩ := hc
  simp only [step] at h
  split at h
  · rename_i t2 u e1
    split at h
    · rename_i e2
      subst e2
      cases h
      obtain ⟨y, e, hr⟩ := opd_rel hf hx e1
      refine ⟨rfl, .tuple #[y, .bool true], ?_, _, rfl, y, _, rfl, hr, .bool true, [], rfl, rfl, rfl⟩
      show (Sem.run P _ w) = _
      simp only [execOp, Instr.typeAssert, Sem.run_bind, e]
      split at ht
      · cases ht
      · rename_i d hno hd
        rw [r_und hd]
        cases d <;> first | exact absurd rfl (hno _) | simp [Sem.run_pure]
      · cases ht
    · cases h
  · cases h

theorem qs_mkifc (t : Nat) (x : Opd) (o : Oper) : QS L P ι H w fr a (.mkifc t x) o := by
  intro v H' hc h
  obtain ⟨d, op, ty, pos, af, g⟩ := o
  cases op <;> simp only [ckQ] at hc <;> try cases hc
  rename_i t' x'
  simp only [Bool.and_eq_true, beq_iff_eq] at hc
  obtain ⟨⟨rfl, ht⟩, hx⟩ := hc
  simp only [step, Option.map_eq_some_iff] at h
  obtain ⟨u, h1, h2⟩ := h; cases h2
  refine ⟨rfl, .iface (L.τ t) (a.eval x'), ?_, _, rfl, opd_rel hf hx h1⟩
  show (Sem.run P _ w) = _
  simp only [execOp, Instr.makeInterface, Sem.run_bind]
  split at ht
  · cases ht
  · rename_i d hno hd
    rw [r_und hd]
    simp only [Result.andThen_ok]
    rfl
  · cases ht

theorem qs_mkfn (g0 : Nat) (first caps : List Opd) (o : Oper) : QS L P ι H w fr a (.mkfn g0 first caps) o := by
  intro v H' hc h
  obtain ⟨d, op, ty, pos, af, g⟩ := o
  cases op <;> simp only [ckQ] at hc <;> try cases hc
  rename_i fn first' caps'
  cases fn <;> simp only [ckQ] at hc <;> try cases hc
  rename_i f
  simp only [Bool.and_eq_true, beq_iff_eq] at hc
  obtain ⟨⟨⟨hd, rfl⟩, h1⟩, h2⟩ := hc
  simp only [step] at h
  split at h
  · rename_i u1 u2 e1 e2
    cases h
    refine ⟨rfl, .func (.func (L.φ g0)) (first'.map a.eval) (caps'.map a.eval), rfl, _, _, rfl, hd, ?_, ?_⟩
    · rw [Array.toList_map]; exact opds_rel hf h1 e1
    · rw [Array.toList_map]; exact opds_rel hf h2 e2
  · cases h

omit hf in
theorem two_args {xs : Array Operand} {x : Operand} (h : xs.toList = [x]) : xs = #[x] := by cases xs; simp_all

theorem qs_len (arr : Option Nat) (x : Opd) (o : Oper) : QS L P ι H w fr a (.len arr x) o := by
  intro v H' hc h
  obtain ⟨d, op, ty, pos, af, g⟩ := o
  cases op <;> simp only [ckQ] at hc <;> try cases hc
  rename_i cl
  obtain ⟨callee, args, argTypes⟩ := cl
  unfold ckLen at hc
  dsimp only at hc
  split at hc
  · rename_i x' t hargs htys
    obtain ⟨hx, ht⟩ := and2 hc
    obtain rfl := two_args hargs
    have et : argTypes = #[t] := by cases argTypes; simp_all
    subst et
    have run : ∀ (n : Nat), (Builtin.len_ #[t] ty #[a.eval x']).run P w = .ok (goInt n) w → Yld P ⟨d, .call ⟨.builtin .len, #[x'], #[t]⟩, ty, pos, af, g⟩ a w (.int .i64 n) := by
      intro n hn
      show (Sem.run P _ w) = _
      simp only [execOp, resolve, Sem.run_bind, Sem.run_pure, Result.andThen_ok, invoke, builtin, List.map_toArray, List.map_cons, List.map_nil, hn]
      rfl
    split at ht
    · rename_i e hu
      simp only [step] at h
      split at h
      · rename_i b len cap ez e1
        cases h
        have : ∃ b' cap', a.eval x' = .slice b' len cap' := by
          cases b with
          | none => obtain ⟨rfl, _, ex⟩ := opd_rel hf hx e1; exact ⟨_, _, ex⟩
          | some b => obtain ⟨_, _, _, ex, _⟩ := opd_rel hf hx e1; exact ⟨_, _, ex⟩
        obtain ⟨b', cap', ex⟩ := this
        exact ⟨rfl, _, run len (by rw [ex]; unfold Builtin.len_; simp [r_und hu]), rfl⟩
      · cases h
    · rename_i m e n hu
      simp only [beq_iff_eq] at ht; subst ht
      simp only [step, Option.map_eq_some_iff] at h
      obtain ⟨u, h1, h2⟩ := h; cases h2
      exact ⟨rfl, _, run _ (by unfold Builtin.len_; simp [r_und hu]), rfl⟩
    · cases ht
  · cases hc

theorem qs_slen (x : Opd) (o : Oper) : QS L P ι H w fr a (.slen x) o := by
  intro v H' hc h
  obtain ⟨d, op, ty, pos, af, g⟩ := o
  cases op <;> simp only [ckQ] at hc <;> try cases hc
  rename_i cl
  obtain ⟨callee, args, argTypes⟩ := cl
  unfold ckSlen at hc
  dsimp only at hc
  split at hc
  · rename_i x' t hargs htys
    obtain ⟨hx, ht⟩ := and2 hc
    obtain rfl := two_args hargs
    have et : argTypes = #[t] := by cases argTypes; simp_all
    subst et
    split at ht
    · rename_i hu
      simp only [step] at h
      split at h
      · rename_i st e1
        cases h
        have ex : a.eval x' = .string st := opd_rel hf hx e1
        refine ⟨rfl, .int .i64 st.size, ?_, rfl⟩
        show (Sem.run P _ w) = _
        have hn : (Builtin.len_ #[t] ty #[a.eval x']).run P w = .ok (goInt st.size) w := by rw [ex]; unfold Builtin.len_; simp [r_und hu]
        simp only [execOp, resolve, Sem.run_bind, Sem.run_pure, Result.andThen_ok, invoke, builtin, List.map_toArray, List.map_cons, List.map_nil, hn]
        rfl
      · cases h
    · cases ht
  · cases hc

theorem qs_mm (mx : Bool) (xs : List Opd) (o : Oper) : QS L P ι H w fr a (.mm mx xs) o := by
  intro v H' hc h
  obtain ⟨d, op, ty, pos, af, g⟩ := o
  cases op <;> simp only [ckQ] at hc <;> try cases hc
  rename_i cl
  obtain ⟨callee, args, argTypes⟩ := cl
  simp only [step] at h
  split at h
  · rename_i x r e1
    simp only [Option.map_eq_some_iff] at h
    obtain ⟨u, h1, h2⟩ := h; cases h2
    have key : ∀ {b : Builtin} {f : Value → Value → Sem Value}, callee = .builtin b → ckOpds L xs args.toList = true → f = (if mx then Builtin.max2 else Builtin.min2) →
        (∀ (cs : Array Bool) (vs : List Value), (∀ x r, vs = x :: r → (builtin b argTypes ty cs vs.toArray).run P w = ((r.foldlM f x).run P w).andThen fun v w' => .ok (.value v) w')) →
        ∃ v', Yld P ⟨d, .call ⟨callee, args, argTypes⟩, ty, pos, af, g⟩ a w v' ∧ Rel L ι v v' := by
      intro b f hb hck hff hrun
      subst hb hff
      have hl := opds_rel hf hck e1
      obtain ⟨x', s', es, hx', hr'⟩ := hl
      obtain ⟨v', q1, q2⟩ := mm_sound (P := P) (w := w) h1 hx' hr'
      refine ⟨v', ?_, q2⟩
      show (Sem.run P _ w) = _
      simp only [execOp, resolve, Sem.run_bind, Sem.run_pure, Result.andThen_ok, invoke]
      have := hrun (args.map fun | .const _ => true | _ => false) _ x' s' es
      rw [← Array.toList_map, Array.toArray_toList] at this
      rw [q1] at this
      exact this.trans rfl
    unfold ckMM at hc
    dsimp only at hc
    split at hc
    · obtain ⟨hm, hck⟩ := and2 hc
      subst hm
      exact ⟨rfl, key rfl hck rfl (fun cs vs x r e => by subst e; simp [builtin, Builtin.max_, Builtin.min_])⟩
    · obtain ⟨hm, hck⟩ := and2 hc
      have hm' : mx = false := by simpa using hm
      subst hm'
      exact ⟨rfl, key rfl hck rfl (fun cs vs x r e => by subst e; simp [builtin, Builtin.max_, Builtin.min_])⟩
    · cases hc
  · cases h

omit hf in
theorem parts3_get {fr : Fr} : ∀ {ps : List (Nat × Nat × Opd)} {l : List (Nat × Nat × V)}, parts3 fr ps = some l → l.length = ps.length ∧
    ∀ (j o n : Nat) (v : V), l[j]? = some (o, n, v) → ∃ x, ps[j]? = some (o, n, x) ∧ opd fr x = some v
  | [], l, h => by cases h; exact ⟨rfl, by simp⟩
  | (o, n, x) :: ps, l, h => by
    simp only [parts3] at h
    split at h
    · rename_i v l' h1 h2
      cases h
      obtain ⟨hl, hg⟩ := parts3_get h2
      refine ⟨by simp [hl], fun j o' n' v' hj => ?_⟩
      cases j with
      | zero => simp at hj; obtain ⟨rfl, rfl, rfl⟩ := hj; exact ⟨x, rfl, h1⟩
      | succ j => simpa using hg j o' n' v' (by simpa using hj)
    · cases h

omit hf in
theorem zip_all {α β : Type} {f : α × β → Bool} : ∀ {l : List α} {m : List β}, (l.zip m).all f = true → ∀ (j : Nat) (x : α) (y : β), l[j]? = some x → m[j]? = some y → f (x, y) = true
  | [], _, _, j, x, y, h, _ => by simp at h
  | _ :: _, [], _, j, x, y, _, h => by simp at h
  | a :: l, b :: m, h, j, x, y, hx, hy => by
    simp only [List.zip_cons_cons, List.all_cons, Bool.and_eq_true] at h
    cases j with
    | zero => simp at hx hy; subst hx hy; exact h.1
    | succ j => exact zip_all h.2 j x y (by simpa using hx) (by simpa using hy)

omit hf in
theorem run_listMapM {α β : Type} {f : α → Sem β} {g : α → β} : ∀ (l : List α), (∀ x ∈ l, (f x).run P w = .ok (g x) w) → (l.mapM f).run P w = .ok (l.map g) w
  | [], _ => rfl
  | x :: l, h => by
    rw [List.mapM_cons, Sem.run_bind, h x (by simp)]
    simp only [Result.andThen_ok, Sem.run_bind, run_listMapM l (fun y hy => h y (by simp [hy])), Sem.run_pure, List.map_cons]

omit hf in
theorem run_arrayMapM {α β : Type} {f : α → Sem β} {g : α → β} (l : Array α) (h : ∀ x ∈ l, (f x).run P w = .ok (g x) w) : (l.mapM f).run P w = .ok (l.map g) w := by
  rw [Array.mapM_eq_mapM_toList, Sem.run_map, run_listMapM l.toList (fun x hx => h x (by simpa using hx))]
  simp only [Result.andThen_ok]
  congr 1
  rw [← Array.toList_map, Array.toArray_toList]

theorem qs_build (z : List V) (ps : List (Nat × Nat × Opd)) (o : Oper) : QS L P ι H w fr a (.build z ps) o := by
  intro v H' hc h
  obtain ⟨d, op, ty, pos, af, g⟩ := o
  cases op <;> simp only [ckQ] at hc <;> try cases hc
  rename_i t parts
  simp only [step] at h
  split at h
  · rename_i l hp
    simp only [Option.map_eq_some_iff] at h
    obtain ⟨cs, h1, h2⟩ := h; cases h2
    obtain ⟨hpl, hpg⟩ := parts3_get hp
    have ht : ∃ inf zv, P.info? t = some inf ∧ inf.zero = some zv ∧ (P.info? t).bind (·.zero) = some zv := by
      split at hc
      · rename_i zv _ hz; cases hi : P.info? t with
        | none => rw [hi] at hz; cases hz
        | some inf => rw [hi] at hz; exact ⟨inf, zv, rfl, hz, hz⟩
      · rename_i zv _ hz; cases hi : P.info? t with
        | none => rw [hi] at hz; cases hz
        | some inf => rw [hi] at hz; exact ⟨inf, zv, rfl, hz, hz⟩
      · cases hc
    obtain ⟨inf, zv, hi, hz, hzz⟩ := ht
    rw [hzz] at hc
    split at hc
    · rename_i fs zv' hu hzv
      cases hzv
      simp only [Bool.and_eq_true, beq_iff_eq] at hc
      obtain ⟨⟨⟨c1, c2⟩, c3⟩, c4⟩ := hc
      have hsz : ∀ f ∈ fs, ∃ i, P.info? f.type = some i := by
        intro f hm
        have := (Array.all_eq_true_iff_forall_mem.1 c4) f hm
        exact Option.isSome_iff_exists.1 this
      have hplaces : (fs.mapM (fun f => do pure (f.offset, ← sizeOf f.type) : Field → Sem (Nat × Nat))).run P w = .ok (fs.map fun f => (f.offset, ((P.info? f.type).map (·.size)).getD 0)) w := by
        refine run_arrayMapM fs (fun f hm => ?_)
        obtain ⟨i, hi⟩ := hsz f hm
        simp [r_size hi, hi]
      obtain ⟨arr', r1, r2⟩ := fill_sound (L := L) (ι := ι) (place := fun i => (fs.map fun f => (f.offset, ((P.info? f.type).map (·.size)).getD 0))[i]?) (ps := l) (qs := (parts.map fun (i, x) => (i, a.eval x)).toList)
        (cells := z) (cs := cs) (arr := zv.cells) (by simp [hpl, c2]) (fun j o n v i x e1 e2 => by
          obtain ⟨x0, g1, g2⟩ := hpg j o n v e1
          simp only [Array.toList_map, List.getElem?_map, Option.map_eq_some_iff] at e2
          obtain ⟨⟨i', y⟩, e3, e4⟩ := e2
          cases e4
          have := zip_all c3 j _ _ g1 e3
          simp only [Bool.and_eq_true, Option.any_eq_true, beq_iff_eq] at this
          obtain ⟨k1, f, k2, k3, k4⟩ := this
          obtain ⟨hn, i2, k5, k6⟩ := ckSize_spec k4
          exact ⟨hn, by simp [k2, k3, k5, k6], opd_rel hf k1 g2⟩) (ckVL_rel L ι _ _ c1) h1
      refine ⟨rfl, .agg arr', ?_, _, rfl, r2⟩
      show (Sem.run P _ w) = _
      simp only [execOp, Instr.build, Sem.run_bind, r_zero hi hz, Result.andThen_ok, r_und hu, hplaces, r1]
      rfl
    · rename_i k0 e zv' hu hzv
      cases hzv
      simp only [Bool.and_eq_true, beq_iff_eq] at hc
      obtain ⟨⟨⟨c1, c0⟩, c2⟩, c3⟩ := hc
      · obtain ⟨i2, k5⟩ := Option.isSome_iff_exists.1 c0
        obtain ⟨arr', r1, r2⟩ := fill_sound (L := L) (ι := ι) (place := fun i => some (i * i2.size, i2.size)) (ps := l) (qs := (parts.map fun (i, x) => (i, a.eval x)).toList)
          (cells := z) (cs := cs) (arr := zv.cells) (by simp [hpl, c2]) (fun j o n v i x e1 e2 => by
            obtain ⟨x0, g1, g2⟩ := hpg j o n v e1
            simp only [Array.toList_map, List.getElem?_map, Option.map_eq_some_iff] at e2
            obtain ⟨⟨i', y⟩, e3, e4⟩ := e2
            cases e4
            have := zip_all c3 j _ _ g1 e3
            simp only [Bool.and_eq_true, beq_iff_eq] at this
            obtain ⟨⟨k1, k2⟩, k4⟩ := this
            obtain ⟨hn, i3, k6, k7⟩ := ckSize_spec k4
            rw [k5] at k6; cases k6
            exact ⟨hn, by rw [k2, k7], opd_rel hf k1 g2⟩) (ckVL_rel L ι _ _ c1) h1
        refine ⟨rfl, .agg arr', ?_, _, rfl, r2⟩
        show (Sem.run P _ w) = _
        simp only [execOp, Instr.build, Sem.run_bind, r_zero hi hz, Result.andThen_ok, r_und hu, r_size k5, r1]
        rfl
    · cases hc
  · cases h

theorem qs_load (s : Sim L ι H w) (n : Option Nat) (x : Opd) (o : Oper) : QS L P ι H w fr a (.load n x) o := by
  intro v H' hc h
  obtain ⟨d, op, ty, pos, af, g⟩ := o
  cases op <;> simp only [ckQ] at hc <;> try cases hc
  rename_i t x'
  obtain ⟨hag, hx⟩ := and2 hc
  simp only [step] at h
  split at h
  · rename_i b q e1
    simp only [Option.map_eq_some_iff] at h
    obtain ⟨u, h1, h2⟩ := h; cases h2
    obtain ⟨c, p, z, g1, ex⟩ := opd_rel hf hx e1
    unfold ckAgg at hag
    split at hag
    · rename_i d0 hd
      cases n with
      | none =>
        simp only [Bool.not_eq_true'] at hag
        obtain ⟨v', r1, r2⟩ := s.load1 g1 h1
        refine ⟨rfl, v', ?_, r2⟩
        show (Sem.run P _ w) = _
        simp only [execOp, Instr.loadAt, ex, Instr.sureAddr, loadVar, Sem.run_bind, Sem.run_pure, Result.andThen_ok, r_isAgg hd, hag, Bool.false_eq_true, if_false, run_load_some r1]
      | some n =>
        obtain ⟨ha, hi⟩ := and2 hag
        simp only [Option.any_eq_true, beq_iff_eq] at hi
        obtain ⟨i, hi1, hi2⟩ := hi
        obtain ⟨arr, r1, r2⟩ := s.loadN (P := P) g1 h1
        refine ⟨rfl, .agg arr, ?_, r2⟩
        show (Sem.run P _ w) = _
        simp only [execOp, Instr.loadAt, ex, Instr.sureAddr, loadVar, Sem.run_bind, Sem.run_pure, Result.andThen_ok, r_isAgg hd, ha, if_true, r_size hi1, hi2, r1]
    · cases hag
  · cases h

/-- All of them. -/
theorem quiet_sound (s : Sim L ι H w) (p : AOp) (o : Oper) : QS L P ι H w fr a p o := by
  cases p
  case mv x => exact qs_mv hf x o
  case pick c x y => exact qs_pick hf c x y o
  case bin b k x y => exact qs_bin hf b k x y o
  case un b x => exact qs_un hf b x o
  case conv k x => exact qs_conv hf k x o
  case load n x => exact qs_load hf s n x o
  case fad off x => exact qs_fad hf off x o
  case fld off n x => exact qs_fld hf off n x o
  case iad arr esz x i => exact qs_iad hf arr esz x i o
  case idx arr esz n x i => exact qs_idx hf arr esz n x i o
  case slice esz x lo hi mx => exact qs_slice hf esz x lo hi mx o
  case substr x lo hi => exact qs_substr hf x lo hi o
  case nilck x => exact qs_nilck hf x o
  case ext i x => exact qs_ext hf i x o
  case mkifc t x => exact qs_mkifc hf t x o
  case mkfn g f c => exact qs_mkfn hf g f c o
  case len arr x => exact qs_len hf arr x o
  case slen x => exact qs_slen hf x o
  case asrt t x => exact qs_asrt hf t x o
  case isnil ne x => exact qs_isnil hf ne x o
  case mm mx xs => exact qs_mm hf mx xs o
  case build z ps => exact qs_build hf z ps o
  all_goals (intro v H' hc h; simp [ckQ] at hc)

end
end Go.Ab
namespace Go.Ab
variable {L : Lk} {ι : Im} {H : Heap} {w : World} {P : Program} {fr : Fr} {a : Act}
def ckZero (L : Lk) (P : Program) (e : TypeId) (z : List V) : Bool := (P.info? e).any fun i => match i.zero with
  | some zv => ckVL L z zv.cells.toList
  | none => false
theorem ckZero_spec {e : TypeId} {z : List V} (h : ckZero L P e z = true) : ∃ i zv, P.info? e = some i ∧ i.zero = some zv ∧ ∀ ι, RelL L ι z zv.cells.toList := by
  simp only [ckZero, Option.any_eq_true] at h
  obtain ⟨i, h1, h2⟩ := h
  split at h2
  · rename_i zv hz; exact ⟨i, zv, h1, hz, fun ι => ckVL_rel L ι _ _ h2⟩
  · cases h2

/-- The slice type's element: cells, bytes (0: whatever), zero cells. -/
def ckElz (L : Lk) (P : Program) (t : TypeId) (esz : Nat) (eb : Option Nat) (z : List V) : Bool :=
  match P.underlying t with
  | some (.slice e) => decide (0 < esz) && z.length == esz && ckZero L P e z && (P.info? e).any fun i => i.size == esz && (match eb with | some b => i.bytes == b | none => true)
  | _ => false
theorem ckElz_spec {t : TypeId} {esz : Nat} {eb : Option Nat} {z : List V} (h : ckElz L P t esz eb z = true) :
    ∃ e i zv, P.underlying t = some (.slice e) ∧ P.info? e = some i ∧ i.zero = some zv ∧ (∀ ι, RelL L ι z zv.cells.toList) ∧ i.size = esz ∧ 0 < esz ∧ z.length = esz ∧ (∀ b, eb = some b → i.bytes = b) := by
  unfold ckElz at h
  split at h
  · rename_i e he
    simp only [Bool.and_eq_true, decide_eq_true_eq, beq_iff_eq, Option.any_eq_true] at h
    obtain ⟨⟨⟨h1, h2⟩, h3⟩, i, h4, h5, h6⟩ := h
    obtain ⟨i', zv, k1, k2, k3⟩ := ckZero_spec h3
    rw [h4] at k1; cases k1
    refine ⟨e, i, zv, he, h4, k2, k3, h5, h1, h2, fun b hb => ?_⟩
    subst hb; simpa using h6
  · cases h

def ckParts (L : Lk) (ps : List (Nat × Opd)) (qs : Array (Nat × Operand)) : Bool := (ps.length == qs.size) && (ps.zip qs.toList).all fun ((i, x), (j, y)) => i == j && ckOpd L x y

/-- Operations that lay a new block. -/
def ckF (L : Lk) (P : Program) : AOp → Op → Bool
  | .alloc z, .alloc t => ckZero L P t z
  | .box n x, .box t y => decide (0 < n) && ckOpd L x y
  | .bslice esz z len ps, .buildSlice t len' qs => ckElz L P t esz none z && len == len' && decide (len * esz ≤ 16777216) && ckParts L ps qs
  | .mkslice esz eb z l c, .makeSlice t l' c' => ckElz L P t esz (some eb) z && ckOpd L l l' && ckOpd L c c'
  | _, _ => false

theorem piece_length {l cs : List V} {o n : Nat} (h : piece l o n = some cs) : cs.length = n := by
  unfold piece at h
  split at h
  · cases h; simp; omega
  · cases h

theorem map_range0 (f g : Nat → Value) : (Array.range 0).map f = (Array.range 0).map g := by simp

theorem reps_length (z : List V) : ∀ n, (reps z n).length = n * z.length
  | 0 => by simp [reps]
  | n + 1 => by rw [reps, List.length_append, reps_length z n, Nat.add_mul]; omega

theorem reps_get (z : List V) (hz : 0 < z.length) : ∀ (n i : Nat), i < n * z.length → (reps z n)[i]? = z[i % z.length]?
  | 0, i, h => by omega
  | n + 1, i, h => by
    rw [reps]
    by_cases hi : i < z.length
    · rw [List.getElem?_append_left hi, Nat.mod_eq_of_lt hi]
    · rw [List.getElem?_append_right (by omega), reps_get z hz n (i - z.length) (by rw [Nat.add_mul] at h; omega)]
      congr 1
      exact (Nat.mod_eq_sub_mod (by omega)).symm

theorem zeros_rel {z : List V} {zv : Value} (hr : RelL L ι z zv.cells.toList) (hz : 0 < z.length) (n : Nat) :
    RelL L ι (reps z n) ((Array.range (n * z.length)).map fun i => zv.cells[i % zv.cells.size]!).toList := by
  have hlen : z.length = zv.cells.size := by rw [hr.length, Array.length_toList]
  refine RelL.of_get (by simp [reps_length]) (fun i x hx => ?_)
  have hi : i < n * z.length := by
    rcases Nat.lt_or_ge i (n * z.length) with h | h
    · exact h
    · rw [List.getElem?_eq_none (by rw [reps_length]; exact h)] at hx; cases hx
  rw [reps_get z hz n i hi] at hx
  obtain ⟨y, h1, h2⟩ := hr.get hx
  refine ⟨y, ?_, h2⟩
  have hm : i % z.length < zv.cells.size := by rw [← hlen]; exact Nat.mod_lt _ hz
  simp only [Array.toList_map, List.getElem?_map, Array.getElem?_toList]
  rw [Array.getElem?_range, if_pos hi] 
  simp only [Option.map_some, ← hlen]
  rw [Array.getElem?_toList] at h1
  rw [Array.getElem?_eq_getElem hm] at h1
  rw [getElem!_pos zv.cells (i % z.length) hm]
  exact h1

theorem parts2_get {esz : Nat} : ∀ {ps : List (Nat × Opd)} {l : List (Nat × Nat × V)}, parts2 fr esz ps = some l → l.length = ps.length ∧
    ∀ (j o n : Nat) (v : V), l[j]? = some (o, n, v) → ∃ i x, ps[j]? = some (i, x) ∧ o = i * esz ∧ n = esz ∧ opd fr x = some v
  | [], l, h => by cases h; exact ⟨rfl, by simp⟩
  | (i, x) :: ps, l, h => by
    simp only [parts2] at h
    split at h
    · rename_i v l' h1 h2
      cases h
      obtain ⟨hl, hg⟩ := parts2_get h2
      refine ⟨by simp [hl], fun j o' n' v' hj => ?_⟩
      cases j with
      | zero => simp at hj; obtain ⟨rfl, rfl, rfl⟩ := hj; exact ⟨i, x, rfl, rfl, rfl, h1⟩
      | succ j => simpa using hg j o' n' v' (by simpa using hj)
    · cases h

/-- What such an operation comes to: a block is pushed; the value points at it. -/
structure Laid (L : Lk) (ι : Im) (P : Program) (o : Oper) (a : Act) (w : World) (cs : List V) (mk : Nat → V) : Prop where
  ex : ∃ (arr : Array Value) (ty : TypeId) (v' : Value), (execOp a.eval o).run P w = .ok (.value v') (pushW w arr ty) ∧ RelL L ι cs arr.toList ∧
    ∀ ι' b, ι' b = some (w.heap.size, 0, arr.size) → Rel L ι' (mk b) v'

theorem fresh_sound (hf : FrRel L ι fr a.tmps) {p : AOp} {o : Oper} {cs : List V} {mk : Nat → V} (hc : ckF L P p o.op = true) (h : fresh fr p = some (cs, mk)) : Laid L ι P o a w cs mk := by
  obtain ⟨d, op, ty, pos, af, g⟩ := o
  cases p <;> try (simp [fresh] at h; done)
  case alloc z =>
    cases op <;> simp only [ckF] at hc <;> try cases hc
    rename_i t
    simp only [fresh, Option.some.injEq, Prod.mk.injEq] at h
    obtain ⟨rfl, rfl⟩ := h
    obtain ⟨i, zv, h1, h2, h3⟩ := ckZero_spec hc
    refine ⟨⟨zv.cells, t, .pointer (some ⟨w.heap.size, 0, none⟩), ?_, h3 ι, fun ι' b hb => ⟨_, _, _, hb, rfl⟩⟩⟩
    simp only [execOp, Instr.alloc, Sem.run_bind, r_zero h1 h2, Result.andThen_ok, newVar, newRow, run_newObj, Sem.run_pure]
    rfl
  case box n x =>
    cases op <;> simp only [ckF] at hc <;> try cases hc
    rename_i t y
    simp only [Bool.and_eq_true, decide_eq_true_eq] at hc
    simp only [fresh] at h
    split at h
    · rename_i v hv
      split at h
      · rename_i hn
        simp only [Option.some.injEq, Prod.mk.injEq] at h
        obtain ⟨rfl, rfl⟩ := h
        have hr := opd_rel hf hc.2 hv
        refine ⟨⟨(a.eval y).cells, t, .pointer (some ⟨w.heap.size, 0, none⟩), ?_, hr.cells (by omega), fun ι' b hb => ⟨_, _, _, hb, rfl⟩⟩⟩
        simp only [execOp, Instr.box, Sem.run_bind, Result.andThen_ok, newVar, newRow, run_newObj, Sem.run_pure]
        rfl
      · cases h
    · cases h
  case bslice esz z len ps =>
    cases op <;> simp only [ckF] at hc <;> try cases hc
    rename_i t len' qs
    simp only [Bool.and_eq_true, decide_eq_true_eq, beq_iff_eq] at hc
    obtain ⟨⟨⟨hel, rfl⟩, hmax⟩, hps⟩ := hc
    obtain ⟨e, i, zv, u1, u2, u3, u4, u5, u6, u7, _⟩ := ckElz_spec hel
    simp only [ckParts, Bool.and_eq_true, beq_iff_eq] at hps
    simp only [fresh] at h
    split at h
    · rename_i l hl
      split at h
      · rename_i cs' hcs
        simp only [Option.some.injEq, Prod.mk.injEq] at h
        obtain ⟨rfl, rfl⟩ := h
        obtain ⟨hpl, hpg⟩ := parts2_get hl
        obtain ⟨arr', r1, r2⟩ := fill_sound (L := L) (ι := ι) (place := fun i => some (i * esz, esz)) (ps := l) (qs := (qs.map fun (i, x) => (i, a.eval x)).toList)
          (cells := reps z len) (cs := cs') (arr := (Array.range (len * z.length)).map fun i => zv.cells[i % zv.cells.size]!) (by simp [hpl, hps.1]) (fun j o n v i' x e1 e2 => by
            obtain ⟨i0, x0, g1, g2, g3, g4⟩ := hpg j o n v e1
            simp only [Array.toList_map, List.getElem?_map, Option.map_eq_some_iff] at e2
            obtain ⟨⟨i1, y⟩, e3, e4⟩ := e2
            cases e4
            have := zip_all hps.2 j _ _ g1 e3
            simp only [Bool.and_eq_true, beq_iff_eq] at this
            obtain ⟨rfl, k1⟩ := this
            exact ⟨by omega, by rw [g2, g3], opd_rel hf k1 g4⟩) (zeros_rel (u4 ι) (by omega) len) hcs
        have hsz : cs'.length = len * esz := by
          have : ∀ {cells cs : List V} {ps : List (Nat × Nat × V)}, fillA cells ps = some cs → cs.length = cells.length := by
            intro cells cs ps
            induction ps generalizing cells with
            | nil => intro h; cases h; rfl
            | cons p ps ih =>
              intro h
              simp only [fillA] at h
              split at h
              · rename_i hh; rw [ih h, over_length _ _ _ (by omega)]
              · cases h
          rw [this hcs, reps_length, u7]
        have hz : arr'.size = len * esz := by rw [← Array.length_toList, ← r2.length, hsz]
        refine ⟨⟨arr', e, .slice (some ⟨w.heap.size, 0, none⟩) len len, ?_, r2, fun ι' b hb => ?_⟩⟩
        · simp only [execOp, Instr.buildSlice, Sem.run_bind, r_und u1, Result.andThen_ok, r_size u2, u5, Sem.run_ite]
          rw [if_neg (by omega)]
          have hzero : (if len * esz = 0 then (Sem.run P (pure #[]) w : Result (Array Value)) else Sem.run P (do pure (← zeroValue e).cells) w) = .ok (if len * esz = 0 then #[] else zv.cells) w := by
            split
            · rfl
            · simp [r_zero u2 u3]
          simp only [Sem.run_pure, Result.andThen_ok]
          have e0 : ((Array.range (len * esz)).map fun i => (if len * esz = 0 then (#[] : Array Value) else zv.cells)[i % (if len * esz = 0 then (#[] : Array Value) else zv.cells).size]!) =
              (Array.range (len * z.length)).map fun i => zv.cells[i % zv.cells.size]! := by
            rw [u7]
            split
            · rename_i h0; rw [h0]; simp
            · rfl
          by_cases h0 : len * esz = 0
          · simp only [h0, if_true, Result.andThen_ok]
            rw [h0] at e0; simp only [if_true] at e0
            rw [e0, r1]
            simp [newRow]
            rfl
          · simp only [h0, if_false, Sem.run_bind, r_zero u2 u3, Result.andThen_ok, Sem.run_pure]
            simp only [h0, if_false] at e0
            rw [e0, r1]
            simp [newRow]
            rfl
        · exact ⟨Nat.le_refl _, ⟨w.heap.size, 0, none⟩, len, rfl, Nat.le_refl _, fun _ => ⟨w.heap.size, 0, arr'.size, 0, hb, rfl, by omega, fun _ => rfl⟩⟩
      · cases h
    · cases h
  case mkslice esz eb z l c =>
    cases op <;> simp only [ckF] at hc <;> try cases hc
    rename_i t l' c'
    simp only [Bool.and_eq_true] at hc
    obtain ⟨⟨hel, hl⟩, hcc⟩ := hc
    obtain ⟨e, i, zv, u1, u2, u3, u4, u5, u6, u7, u8⟩ := ckElz_spec hel
    have u8 := u8 eb rfl
    simp only [fresh] at h
    split at h
    · rename_i k1 n1 k2 n2 e1 e2
      split at h
      · rename_i hb
        obtain ⟨b1, b2, b3, b4⟩ := hb
        simp only [Option.some.injEq, Prod.mk.injEq] at h
        obtain ⟨rfl, rfl⟩ := h
        have g1 : a.eval l' = .int k1 n1 := opd_rel hf hl e1
        have g2 : a.eval c' = .int k2 n2 := opd_rel hf hcc e2
        have w1 : IntKind.i64.wrap n1 = n1 := by simp only [IntKind.wrap, IntKind.bits, IntKind.signed]; simp; omega
        have w2 : IntKind.i64.wrap n2 = n2 := by simp only [IntKind.wrap, IntKind.bits, IntKind.signed]; simp; omega
        have hr := zeros_rel (u4 ι) (by omega) n2.toNat
        rw [u7] at hr
        refine ⟨⟨_, e, .slice (some ⟨w.heap.size, 0, none⟩) n1.toNat n2.toNat, ?_, hr, fun ι' b hb => ?_⟩⟩
        · simp only [execOp, Instr.makeSlice, g1, g2, asInt, asIntOf, Sem.run_bind, r_und u1, Result.andThen_ok, Sem.run_pure, r_info u2, u8, w1, w2, Sem.run_ite, r_size u2, u5, run_askRoom]
          have ht : (decide (n2 < 0) || decide ((eb : Int) * n2 > 2 ^ 48)) = false := by
            have : (eb : Int) * n2 = n2 * eb := Int.mul_comm _ _
            simp; omega
          rw [ht]
          rw [if_neg (by simp; omega)]
          by_cases h0 : n2.toNat * esz = 0
          · simp only [h0, if_true, Result.andThen_ok, newRow, Sem.run_bind, run_newObj, Sem.run_pure]
            rw [map_range0 _ fun i => zv.cells[i % zv.cells.size]!]
            rfl
          · simp only [h0, if_false, Sem.run_bind, r_zero u2 u3, Result.andThen_ok, Sem.run_pure, newRow, run_newObj]
            rfl
        · exact ⟨by omega, ⟨w.heap.size, 0, none⟩, n2.toNat, rfl, Nat.le_refl _, fun _ => ⟨w.heap.size, 0, _, 0, hb, rfl, by simp, fun _ => rfl⟩⟩
      · cases h
    · cases h


/-- What an operation that writes comes to. -/
def Does (P : Program) (o : Oper) (a : Act) (w : World) (v : Value) (w' : World) : Prop :=
  (execOp a.eval o).run P w = .ok (.value v) w' ∨ ((execOp a.eval o).run P w = .ok .skip w' ∧ v = undef)

def ckApp (L : Lk) (P : Program) (esz eb : Nat) (x y : Opd) (c : Go.Call) : Bool :=
  match c.callee, c.args.toList, c.argTypes.toList with
  | .builtin .append, [x', y'], [t, u] => ckOpd L x x' && ckOpd L y y' && (match P.underlying t with
      | some (.slice e) => decide (0 < esz) && (P.info? e).any fun i => i.size == esz && i.bytes == eb && decide (0 < eb) && i.zero.any fun z => z.cells.size == esz
      | _ => false) && (match P.underlying u with
      | some (.slice _) => true
      | some .string => true
      | _ => false)
  | _, _, _ => false

def ckCpy (L : Lk) (P : Program) (esz : Nat) (x y : Opd) (c : Go.Call) : Bool :=
  match c.callee, c.args.toList, c.argTypes.toList with
  | .builtin .copy, [x', y'], t :: _ => ckOpd L x x' && ckOpd L y y' && (match P.underlying t with
      | some (.slice e) => (P.info? e).any fun i => i.size == esz
      | _ => false)
  | _, _, _ => false

/-- Operations that write. -/
def ckW (L : Lk) (P : Program) : AOp → Op → Bool
  | .store n x y, .store t x' y' => ckSize P t n && ckOpd L x x' && ckOpd L y y'
  | .append esz eb x y, .call c => ckApp L P esz eb x y c
  | .copy esz x y, .call c => ckCpy L P esz x y c
  | _, _ => false

def WS (L : Lk) (P : Program) (ι : Im) (H : Heap) (w : World) (fr : Fr) (a : Act) (p : AOp) (o : Oper) : Prop :=
  ∀ v H', ckW L P p o.op = true → step fr H p = some (v, H') → ∃ v' w' ι', Does P o a w v' w' ∧ Sim L ι' H' w' ∧ Ext ι H w ι' H' w' ∧ Rel L ι' v v'

theorem wr_spec {b o : Nat} {vs : List V} {H' : Heap} (h : wr H b o vs = some H') : ∃ l, H.get b = .cells l true ∧ o + vs.length ≤ l.length ∧ vs.all one = true ∧ H' = H.put b (.cells (over l o vs) true) := by
  unfold wr at h
  split at h
  · rename_i l hg
    split at h
    · rename_i hl
      split at h
      · rename_i ho; cases h; exact ⟨l, hg, hl, ho, rfl⟩
      · cases h
    · cases h
  · cases h

theorem ones_rel {vs : List V} {ws : List Value} (h : RelL L ι vs ws) (ho : vs.all one = true) : ∀ x ∈ ws, x.oneCell' = true := by
  intro x hx
  obtain ⟨i, hi⟩ := List.mem_iff_getElem?.1 hx
  have hlt : i < vs.length := by rw [h.length]; exact (List.getElem?_eq_some_iff.1 hi).1
  obtain ⟨y, h1, h2⟩ := h.get (List.getElem?_eq_getElem hlt)
  rw [hi] at h1; cases h1
  exact h2.one (List.all_eq_true.1 ho _ (List.getElem_mem hlt))

section
variable (hf : FrRel L ι fr a.tmps) (s : Sim L ι H w)
include hf s
/-- Cells written into a row that is there. -/
theorem run_wr {b o c p z : Nat} {vs : List V} {ws : List Value} {H' : Heap} (hb : ι b = some (c, p, z)) (h : wr H b o vs = some H') (hr : RelL L ι vs ws) :
    (storeCells ⟨c, p + o, none⟩ ws).run P w = .ok () (stW w c (p + o) ws) ∧ Sim L ι H' (stW w c (p + o) ws) ∧ Ext ι H w ι H' (stW w c (p + o) ws) := by
  obtain ⟨l, hg, hl, ho, rfl⟩ := wr_spec h
  obtain ⟨arr, ty, fz, e, e2, e3, e4, h5⟩ := s.row hb hg
  have hlen := hr.length
  exact ⟨run_storeCells c (p + o) ws w 0 e (by rw [e2]; exact (e4 rfl).imp Nat.le_of_eq id) (by omega) (ones_rel hr ho), s.put hb hg hl hr⟩

theorem ws_store (n : Nat) (x y : Opd) (o : Oper) : WS L P ι H w fr a (.store n x y) o := by
  intro v H' hc h
  obtain ⟨d, op, ty, pos, af, g⟩ := o
  cases op <;> simp only [ckW] at hc <;> try cases hc
  rename_i t x' y'
  simp only [Bool.and_eq_true] at hc
  obtain ⟨⟨h1, hx⟩, hy⟩ := hc
  obtain ⟨hn, i, hi, hsz⟩ := ckSize_spec h1
  simp only [step] at h
  split at h
  · rename_i b q v0 e1 e2
    split at h
    · rename_i hvn
      simp only [Option.map_eq_some_iff] at h
      obtain ⟨H0, h2, h3⟩ := h; cases h3
      obtain ⟨c, p, z, g1, g2⟩ := opd_rel hf hx e1
      have hv := (opd_rel hf hy e2).cells (by omega)
      obtain ⟨r1, r2, r3⟩ := run_wr (P := P) hf s g1 h2 hv
      refine ⟨undef, _, ι, .inr ⟨?_, rfl⟩, r2, r3, trivial⟩
      have hvs : (a.eval y').cells.size = n := by rw [← Array.length_toList, ← hv.length, hvn]
      simp only [execOp, Instr.storeAt, g2, Instr.sureAddr, storeVar, Sem.run_bind, Sem.run_pure, Result.andThen_ok, r_size hi, hsz, hvs, ne_eq, not_true_eq_false, if_false, r1]
    · cases h
  · cases h

omit hf in
/-- A slice's, a string's first elements. -/
theorem firsts_sound {esz n : Nat} {y : V} {Y : Value} {cells : List V} (h : firsts H esz y = some (n, cells)) (hr : Rel L ι y Y) :
    (Builtin.lenOf Y).run P w = .ok n w ∧ cells.length = n * esz ∧ ∀ m, m ≤ n → ∃ arr : Array Value, (Builtin.firstCells esz m Y).run P w = .ok arr w ∧ RelL L ι (cells.take (m * esz)) arr.toList := by
  cases y <;> try (simp [firsts] at h; done)
  case str st =>
    cases hr
    simp only [firsts] at h
    split at h
    · rename_i he; subst he
      cases h
      refine ⟨rfl, by simp, fun m hm => ⟨(st.extract 0 m).data.map fun b => .int .u8 b.toNat, rfl, ?_⟩⟩
      refine RelL.of_get ?_ (fun i x hx => ?_)
      · simp
      · simp only [Nat.mul_one, List.getElem?_take, List.getElem?_map] at hx
        split at hx
        · rename_i him
          simp only [Option.map_eq_some_iff] at hx
          obtain ⟨u, h1, rfl⟩ := hx
          refine ⟨_, ?_, rfl⟩
          simp only [Array.toList_map, List.getElem?_map, Array.getElem?_toList, ByteArray.data_extract, Array.getElem?_extract]
          rw [Array.getElem?_toList] at h1
          have : st.data.size = st.size := rfl
          rw [if_pos (by omega), Nat.zero_add, h1]; rfl
        · cases hx
    · cases h
  case sl b len cap e =>
    cases b with
    | none =>
      obtain ⟨rfl, rfl, rfl⟩ := hr
      simp only [firsts] at h; cases h
      exact ⟨rfl, by simp, fun m hm => ⟨#[], rfl, by simp [RelL]⟩⟩
    | some bo =>
      obtain ⟨b, q⟩ := bo
      obtain ⟨hlc, A, cap', rfl, g3, gg⟩ := hr
      simp only [firsts] at h
      split at h
      · rename_i he; subst he
        split at h
        · rename_i l wr0 hg
          simp only [Option.map_eq_some_iff] at h
          obtain ⟨cs, hp, h2⟩ := h
          cases h2
          have hcl : cells.length = n * e := piece_length hp
          refine ⟨rfl, hcl, fun m hm => ?_⟩
          rcases Nat.eq_zero_or_pos cap' with hc0 | hc0
          · have hm0 : m = 0 := by omega
            subst hm0
            refine ⟨#[], ?_, by simp [RelL]⟩
            show (loadCells A (0 * e)).run P w = _
            rw [Nat.zero_mul]; rfl
          obtain ⟨c, p, z, r, g1, rfl, g4, g5⟩ := gg hc0
          obtain ⟨ws, k1, k2, k3⟩ := s.piece g1 hg hp
          have hmle : m * e ≤ n * e := Nat.mul_le_mul_right _ hm
          refine ⟨(ws.take (m * e)).toArray, ?_, by simpa using k1.take (m * e)⟩
          show (loadCells ⟨c, r, none⟩ (m * e)).run P w = _
          refine run_loadCells c r (m * e) _ (by simp; omega) (fun j v hj => ?_)
          have hj2 : j < m * e := by
            rcases Nat.lt_or_ge j (m * e) with h | h
            · exact h
            · rw [List.getElem?_take, if_neg (by omega)] at hj; cases hj
          rw [List.getElem?_take, if_pos hj2] at hj
          have hpos : 0 < cap := by
            rcases Nat.eq_zero_or_pos n with h0 | h0
            · subst h0; simp at hmle; omega
            · omega
          rw [g5 hpos]
          exact k3 j v hj
        · split at h
          · rename_i h0
            cases h
            refine ⟨rfl, by simp [h0], fun m hm => ⟨#[], ?_, by simp [RelL]⟩⟩
            have hmle : m * e ≤ n * e := Nat.mul_le_mul_right _ hm
            have : m * e = 0 := by omega
            show (loadCells A (m * e)).run P w = _
            rw [this]; rfl
          · cases h
      · cases h

omit hf s in
theorem growBy_le {N : Nat} : ∀ (r c : Nat), Builtin.growBy N r c ≤ max c (N + (N + 768) / 4)
  | 0, c => by unfold Builtin.growBy; omega
  | r + 1, c => by
    unfold Builtin.growBy
    split
    · omega
    · have := growBy_le (N := N) r (c + (c + 768) / 4); omega

omit hf s in
theorem nextcap_le {need cap : Nat} (h : cap < need) : Builtin.nextslicecap need cap ≤ need + need / 4 + 1024 := by
  unfold Builtin.nextslicecap
  split
  · omega
  · split
    · omega
    · have := growBy_le (N := need) 4 cap; omega

omit hf s in
theorem run_append {t u e : TypeId} {ud : TypeDesc} {i : TypeInfo} {zv : Value} {esz eb len cap' n ty : Nat} {base : Option Addr} {Y : Value} (u1 : P.underlying t = some (.slice e)) (u2 : P.info? e = some i)
    (u3 : i.zero = some zv) (u5 : i.size = esz) (u7 : i.bytes = eb) (ub : 0 < eb) (uu : P.underlying u = some ud) (uz : (∃ e', ud = .slice e') ∨ ud = .string) (l1 : (Builtin.lenOf Y).run P w = .ok n w)
    (hg : ¬ len + n ≤ cap' → Builtin.nextslicecap (len + n) cap' * eb ≤ 2 ^ 48) :
    (Builtin.append_ #[t, u] ty #[.slice base len cap', Y]).run P w =
      if len + n ≤ cap' then
        ((Builtin.firstCells esz n Y).run P w).andThen fun new w1 => ((match base with | some a => storeCells (a.add (len * esz)) new.toList | none => pure () : Sem Unit).run P w1).andThen fun _ w2 => .ok (.slice base (len + n) cap') w2
      else
        let nc := (Question.appendCap (len + n) cap' e).cut (w.tape w.drawn (Question.appendCap (len + n) cap' e))
        ((Builtin.firstCells esz len (.slice base len cap')).run P { w with drawn := w.drawn + 1 }).andThen fun old w1 => ((Builtin.firstCells esz n Y).run P w1).andThen fun new w2 =>
          .ok (.slice (some ⟨w2.heap.size, 0, none⟩) (len + n) nc) (pushW w2 (old ++ new ++ Builtin.zeroCells zv.cells (nc - (len + n))) e) := by
  have hz : (match ud with | .int _ => true | _ => false) = false := by rcases uz with ⟨e', rfl⟩ | rfl <;> rfl
  unfold Builtin.append_
  rcases uz with ⟨e', rfl⟩ | rfl
  all_goals
    simp only [List.getElem?_toArray, List.getElem?_cons_zero, List.getElem?_cons_succ, Sem.run_bind, r_und u1, Result.andThen_ok, r_size u2, u5, r_und uu, Sem.run_pure, Bool.false_eq_true, if_false, l1, Sem.run_ite]
    split
    · cases base <;> simp
    · rename_i hnc
      have h2 := hg hnc
      simp [r_info u2, u7, Nat.ne_of_gt ub, h2, Nat.not_lt.2 h2, r_zero u2 u3, Question.forced, newRow, pushW]

theorem ws_append (esz eb : Nat) (x y : Opd) (o : Oper) : WS L P ι H w fr a (.append esz eb x y) o := by
  intro v H' hc h
  obtain ⟨d, op, ty, pos, af, g⟩ := o
  cases op <;> simp only [ckW] at hc <;> try cases hc
  rename_i cl
  obtain ⟨cle, args, argTypes⟩ := cl
  unfold ckApp at hc
  dsimp only at hc
  split at hc
  · rename_i x' y' t u ha ht
    have ea : args = #[x', y'] := by cases args; simp_all
    have et : argTypes = #[t, u] := by cases argTypes; simp_all
    subst ea et
    simp only [Bool.and_eq_true] at hc
    obtain ⟨⟨⟨hx, hy⟩, hel⟩, hu⟩ := hc
    obtain ⟨e, i, zv, u1, u2, u3, u4, u5, u6, u7⟩ : ∃ e i zv, P.underlying t = some (.slice e) ∧ P.info? e = some i ∧ i.zero = some zv ∧ zv.cells.size = esz ∧ i.size = esz ∧ 0 < esz ∧ i.bytes = eb ∧ 0 < eb := by
      split at hel
      · rename_i e he
        simp only [Bool.and_eq_true, decide_eq_true_eq, Option.any_eq_true, beq_iff_eq] at hel
        obtain ⟨h1, i, h2, ⟨⟨h3, h4⟩, h5⟩, zv, h6, h7⟩ := hel
        exact ⟨e, i, zv, he, h2, h6, h7, h3, h1, h4, h5⟩
      · cases hel
    obtain ⟨ud, uu, uz⟩ : ∃ ud, P.underlying u = some ud ∧ ((∃ e', ud = .slice e') ∨ ud = .string) := by
      split at hu
      · rename_i e' he; exact ⟨_, he, .inl ⟨e', rfl⟩⟩
      · rename_i he; exact ⟨_, he, .inr rfl⟩
      · cases hu
    simp only [step] at h
    split at h
    · rename_i X Y e1 e2
      have hX := opd_rel hf hx e1
      have hY := opd_rel hf hy e2
      unfold app at h
      split at h
      · rename_i b len cap ez n new hfs
        obtain ⟨l1, l2, l3⟩ := firsts_sound (P := P) s hfs hY
        obtain ⟨arr, l4, l5⟩ := l3 n (Nat.le_refl _)
        rw [← l2, List.take_length] at l5
        have l6 := l5.length
        have fin : ∀ {base : Option Addr} {cap' : Nat} {v' : Value} {w' : World}, a.eval x' = .slice base len cap' → (Builtin.append_ #[t, u] ty #[.slice base len cap', a.eval y']).run P w = .ok v' w' →
            Does P ⟨d, .call ⟨.builtin .append, #[x', y'], #[t, u]⟩, ty, pos, af, g⟩ a w v' w' := by
          intro base cap' v' w' hX' hrun
          refine .inl ?_
          rw [← hX'] at hrun
          simp only [execOp, resolve, Sem.run_bind, Sem.run_pure, Result.andThen_ok, invoke, builtin, List.map_toArray, List.map_cons, List.map_nil, hrun]
        split at h
        · cases h
        · rename_i hez
          split at h
          · rename_i hones
            split at h
            · rename_i hfit
              -- there is room, by what is known
              cases b with
              | none =>
                obtain ⟨rfl, rfl, ex⟩ := hX
                cases h
                obtain rfl : n = 0 := by omega
                refine ⟨.slice none 0 0, w, ι, fin ex ?_, s, Ext.refl _ _ _, rfl, rfl, rfl⟩
                rw [run_append u1 u2 u3 u5 u7.1 u7.2 uu uz l1 (fun hc => absurd (Nat.le_refl 0) hc), if_pos (Nat.le_refl _), l4]
                rfl
              | some bo =>
                obtain ⟨b, q⟩ := bo
                have hez' : ez = esz := by simpa using hez
                subst hez'
                obtain ⟨hlc, A, cap', ex, g3, gg⟩ := hX
                have hcap : len + n ≤ cap' := by omega
                have hfin := run_append (P := P) (w := w) (ty := ty) (base := some A) (len := len) (cap' := cap') (n := n) (Y := a.eval y') u1 u2 u3 u5 u7.1 u7.2 uu uz l1 (fun hc => absurd hcap hc)
                rw [if_pos hcap, l4] at hfin
                simp only [Result.andThen_ok] at hfin
                dsimp only at h
                split at h
                · rename_i hemp
                  cases h
                  have hnil : new = [] := by simpa using hemp
                  subst hnil
                  have harr : arr.toList = [] := l5
                  rw [harr] at hfin
                  refine ⟨_, w, ι, fin ex hfin, s, Ext.refl _ _ _, by omega, A, cap', rfl, g3, gg⟩
                · rename_i hemp
                  simp only [Option.map_eq_some_iff] at h
                  obtain ⟨H0, h2, h3⟩ := h; cases h3
                  have hnpos : 0 < n := by
                    rcases Nat.eq_zero_or_pos n with h0 | h0
                    · subst h0; simp at l2; subst l2; simp at hemp
                    · exact h0
                  obtain ⟨c, p, z, r, g1, rfl, g4, g5⟩ := gg (by omega)
                  have hr := g5 (by omega)
                  simp only [add_at] at hfin
                  obtain ⟨r1, r2, r3⟩ := run_wr (P := P) hf s g1 h2 l5
                  rw [show r + len * ez = p + (q + len * ez) by omega, r1] at hfin
                  exact ⟨_, _, ι, fin ex hfin, r2, r3, by omega, _, cap', rfl, g3, gg⟩
            · rename_i hfit
              split at h
              · rename_i hgrow
                cases b with
                | none =>
                  obtain ⟨rfl, rfl, ex⟩ := hX
                  dsimp only at h
                  split at h
                  · cases h
                    have hnc : ¬ 0 + n ≤ 0 := by omega
                    have hfin := run_append (P := P) (w := w) (ty := ty) (base := none) (len := 0) (cap' := 0) (n := n) (Y := a.eval y') u1 u2 u3 u5 u7.1 u7.2 uu uz l1 (fun _ => by
                      simp only [growOk, decide_eq_true_eq] at hgrow
                      have : Builtin.nextslicecap (0 + n) 0 = 0 + n := by unfold Builtin.nextslicecap; rw [if_pos (by omega)]
                      rw [this]; exact hgrow)
                    rw [if_neg hnc] at hfin
                    simp only [Nat.zero_add] at hfin
                    have sD : Sim L ι H { w with drawn := w.drawn + 1 } := ⟨s.dn, s.nx, s.lt, s.ok, s.inj⟩
                    obtain ⟨_, _, l3'⟩ := firsts_sound (P := P) sD hfs hY
                    obtain ⟨arr2, k4, k5⟩ := l3' n (Nat.le_refl _)
                    rw [← l2, List.take_length] at k5
                    rw [show (Builtin.firstCells esz 0 (.slice none 0 0)).run P { w with drawn := w.drawn + 1 } = .ok #[] { w with drawn := w.drawn + 1 } from rfl] at hfin
                    simp only [Result.andThen_ok] at hfin
                    rw [k4] at hfin
                    obtain ⟨s2, x2⟩ := sD.fresh (l := new) (arr := (#[] ++ arr2 ++ Builtin.zeroCells zv.cells ((Question.appendCap n 0 e).cut (w.tape w.drawn (Question.appendCap n 0 e)) - n))) e
                      (by have := k5.length; simp at this ⊢; omega) (fun i0 v0 hv0 => by
                        obtain ⟨v', q1, q2⟩ := k5.get hv0
                        refine ⟨v', ?_, q2⟩
                        have hlt : i0 < arr2.size := by rw [← Array.length_toList]; exact (List.getElem?_eq_some_iff.1 q1).1
                        rw [Array.getElem?_append_left (by simp; omega), Array.getElem?_append_right (by simp)]
                        simpa using q1)
                    refine ⟨_, _, _, fin ex hfin, s2, ⟨x2.le, x2.hs, x2.hn, x2.ro, x2.new, x2.kept, x2.dom, x2.os, x2.tape, x2.output⟩, Nat.le_refl _, ?_⟩
                    refine ⟨_, _, rfl, ?_, fun _ => ⟨w.heap.size, 0, _, 0, by unfold Ab.upd; rw [if_pos rfl], rfl, ?_, fun _ => rfl⟩⟩
                    · simp only [Question.cut]; omega
                    · have h1 := k5.length
                      have hcut : n ≤ (Question.appendCap n 0 e).cut (w.tape w.drawn (Question.appendCap n 0 e)) := by simp only [Question.cut]; omega
                      simp only [Array.size_append, Builtin.zeroCells, Array.size_map, Array.size_range, u4]
                      have h1' : arr2.size = n * esz := by rw [← Array.length_toList, ← k5.length, l2]
                      rw [h1', Nat.sub_mul]
                      have := Nat.mul_le_mul_right esz hcut
                      simp; omega
                  · cases h
                | some bo =>
                  obtain ⟨b, q⟩ := bo
                  have hez' : ez = esz := by simpa using hez
                  subst hez'
                  obtain ⟨hlc, A, cap', ex, g3, gg⟩ := hX
                  dsimp only at h
                  split at h
                  · rename_i l hg
                    split at h
                    · rename_i old hp
                      cases h
                      have hol := piece_length hp
                      by_cases hcap : len + n ≤ cap'
                      · -- it grows where it stands
                        obtain ⟨c, p, z, r, g1, rfl, g4, g5⟩ := gg (by omega)
                        have hfin := run_append (P := P) (w := w) (ty := ty) (base := some ⟨c, r, none⟩) (len := len) (cap' := cap') (n := n) (Y := a.eval y') u1 u2 u3 u5 u7.1 u7.2 uu uz l1 (fun hc => absurd hcap hc)
                        rw [if_pos hcap, l4] at hfin
                        simp only [Result.andThen_ok, add_at] at hfin
                        obtain ⟨ar, ty', fz, e1', e2', e3', e4', h5'⟩ := s.row g1 hg
                        have hroom : (len + n) * ez ≤ cap' * ez := Nat.mul_le_mul_right _ hcap
                        rw [Nat.add_mul] at hroom
                        have hst := run_storeCells (P := P) c (r + len * ez) arr.toList w 0 e1' (by rw [e2']; exact (e4' rfl).imp Nat.le_of_eq id) (by rw [← l6]; omega) (ones_rel l5 hones)
                        rw [hst] at hfin
                        obtain ⟨s2, x2⟩ := s.grow (n := len * ez) (q := r) (new := new) (ws := arr.toList) g1 hg hp (fun hpos => g5 (by
                          rcases Nat.eq_zero_or_pos cap with h0 | h0
                          · subst h0; simp at hlc; subst hlc; simp at hpos
                          · exact h0)) (by omega) l5
                        refine ⟨_, _, _, fin ex hfin, s2, x2, Nat.le_refl _, _, cap', rfl, hcap, fun _ => ⟨c, r, z, r, by unfold Ab.upd; rw [if_pos rfl], rfl, g4, fun _ => rfl⟩⟩
                      · have hfin := run_append (P := P) (w := w) (ty := ty) (base := some A) (len := len) (cap' := cap') (n := n) (Y := a.eval y') u1 u2 u3 u5 u7.1 u7.2 uu uz l1 (fun hc => by
                          simp only [growOk, decide_eq_true_eq] at hgrow
                          have := nextcap_le (need := len + n) (cap := cap') (by omega)
                          exact Nat.le_trans (Nat.mul_le_mul_right _ this) hgrow)
                        rw [if_neg hcap] at hfin
                        have sD : Sim L ι H { w with drawn := w.drawn + 1 } := ⟨s.dn, s.nx, s.lt, s.ok, s.inj⟩
                        obtain ⟨_, _, l3'⟩ := firsts_sound (P := P) sD hfs hY
                        obtain ⟨arr2, k4, k5⟩ := l3' n (Nat.le_refl _)
                        rw [← l2, List.take_length] at k5
                        have hws : ∃ ws : List Value, RelL L ι old ws ∧ ws.length = len * ez ∧ (0 < cap' → ∃ c r, A = ⟨c, r, none⟩ ∧ ∀ (j : Nat) (v : Value), ws[j]? = some v → (({ w with drawn := w.drawn + 1 } : World)).cell? ⟨c, r + j, none⟩ = some v) := by
                          rcases Nat.eq_zero_or_pos cap' with hc0 | hc0
                          · have hl0 : len = 0 := by omega
                            subst hl0
                            have : old = [] := List.eq_nil_of_length_eq_zero (by simpa using hol)
                            subst this
                            exact ⟨[], rfl, by simp, fun h => by omega⟩
                          · obtain ⟨c, p, z, r, g1, rfl, g4, g5⟩ := gg hc0
                            obtain ⟨ws, j1, j2, j3⟩ := sD.piece g1 hg hp
                            refine ⟨ws, j1, j2, fun _ => ⟨c, r, rfl, fun j v hj => ?_⟩⟩
                            have hj2 : j < len * ez := by rw [← j2]; exact (List.getElem?_eq_some_iff.1 hj).1
                            have hpos : 0 < cap := by
                              rcases Nat.eq_zero_or_pos len with h0 | h0
                              · subst h0; simp at hj2
                              · omega
                            rw [g5 hpos]; exact j3 j v hj
                        obtain ⟨ws, j1, j2, j3⟩ := hws
                        have hold : (Builtin.firstCells ez len (.slice (some A) len cap')).run P { w with drawn := w.drawn + 1 } = .ok ws.toArray { w with drawn := w.drawn + 1 } := by
                          rcases Nat.eq_zero_or_pos cap' with hc0 | hc0
                          · have hl0 : len = 0 := by omega
                            subst hl0
                            have : ws = [] := List.eq_nil_of_length_eq_zero (by simpa using j2)
                            subst this
                            show (loadCells A (0 * ez)).run P _ = _
                            rw [Nat.zero_mul]; rfl
                          obtain ⟨c, r, rfl, j4⟩ := j3 hc0
                          show (loadCells ⟨c, r, none⟩ (len * ez)).run P _ = _
                          exact run_loadCells c r (len * ez) ws j2 j4
                        rw [hold] at hfin
                        simp only [Result.andThen_ok] at hfin
                        rw [k4] at hfin
                        obtain ⟨sK, xK⟩ := sD.kill hg
                        have hcells : RelL L ι (old ++ new) (ws ++ arr2.toList) := j1.append k5
                        obtain ⟨s2, x2⟩ := sK.fresh (l := old ++ new) (arr := (ws.toArray ++ arr2 ++ Builtin.zeroCells zv.cells ((Question.appendCap (len + n) cap' e).cut (w.tape w.drawn (Question.appendCap (len + n) cap' e)) - (len + n)))) e
                          (by have := hcells.length; simp at this ⊢; omega) (fun i0 v0 hv0 => by
                            obtain ⟨v', q1, q2⟩ := hcells.get hv0
                            refine ⟨v', ?_, q2⟩
                            have hlt : i0 < (ws ++ arr2.toList).length := (List.getElem?_eq_some_iff.1 q1).1
                            rw [Array.getElem?_append_left (by simp at hlt ⊢; omega), ← Array.getElem?_toList]
                            simpa using q1)
                        have x3 := xK.trans sD sK x2
                        refine ⟨_, _, _, fin ex hfin, s2, ⟨x3.le, x3.hs, x3.hn, x3.ro, x3.new, x3.kept, x3.dom, x3.os, x3.tape, x3.output⟩, Nat.le_refl _, ?_⟩
                        refine ⟨_, _, rfl, ?_, fun _ => ⟨w.heap.size, 0, _, 0, by unfold Ab.upd; exact if_pos rfl, rfl, ?_, fun _ => rfl⟩⟩
                        · simp only [Question.cut]; omega
                        · have h1 := k5.length
                          have hcut : len + n ≤ (Question.appendCap (len + n) cap' e).cut (w.tape w.drawn (Question.appendCap (len + n) cap' e)) := by simp only [Question.cut]; omega
                          simp only [Array.size_append, Builtin.zeroCells, Array.size_map, Array.size_range, u4]
                          have h1' : arr2.size = n * ez := by rw [← Array.length_toList, ← k5.length, l2]
                          rw [h1', Nat.sub_mul, Nat.add_mul]
                          have := Nat.mul_le_mul_right ez hcut
                          rw [Nat.add_mul] at this
                          simp [j2]; omega
                    · cases h
                  · cases h
              · cases h
          · cases h
      · cases h
    · cases h
  · cases hc

theorem ws_copy (esz : Nat) (x y : Opd) (o : Oper) : WS L P ι H w fr a (.copy esz x y) o := by
  intro v H' hc h
  obtain ⟨d, op, ty, pos, af, g⟩ := o
  cases op <;> simp only [ckW] at hc <;> try cases hc
  rename_i cl
  obtain ⟨cle, args, argTypes⟩ := cl
  unfold ckCpy at hc
  dsimp only at hc
  split at hc
  · rename_i x' y' t rt ha ht
    have ea : args = #[x', y'] := by cases args; simp_all
    obtain ⟨ats, et⟩ : ∃ l, argTypes = (t :: l).toArray := ⟨rt, by rw [← ht]⟩
    subst ea et
    simp only [Bool.and_eq_true] at hc
    obtain ⟨⟨hx, hy⟩, hel⟩ := hc
    obtain ⟨e, i, u1, u2, u5⟩ : ∃ e i, P.underlying t = some (.slice e) ∧ P.info? e = some i ∧ i.size = esz := by
      split at hel
      · rename_i e he
        simp only [Option.any_eq_true, beq_iff_eq] at hel
        obtain ⟨i, h2, h3⟩ := hel
        exact ⟨e, i, he, h2, h3⟩
      · cases hel
    simp only [step] at h
    split at h
    · rename_i X Y e1 e2
      have hX := opd_rel hf hx e1
      have hY := opd_rel hf hy e2
      unfold cpy at h
      split at h
      · rename_i b dlen cap ez n new hfs
        obtain ⟨l1, l2, l3⟩ := firsts_sound (P := P) s hfs hY
        have fin : ∀ {base : Option Addr} {cap' : Nat} {v' : Value} {w' : World}, a.eval x' = .slice base dlen cap' → (Builtin.copy_ (t :: ats).toArray ty #[.slice base dlen cap', a.eval y']).run P w = .ok v' w' →
            Does P ⟨d, .call ⟨.builtin .copy, #[x', y'], (t :: ats).toArray⟩, ty, pos, af, g⟩ a w v' w' := by
          intro base cap' v' w' hX' hrun
          refine .inl ?_
          rw [← hX'] at hrun
          simp only [execOp, resolve, Sem.run_bind, Sem.run_pure, Result.andThen_ok, invoke, builtin, List.map_toArray, List.map_cons, List.map_nil, hrun]
        obtain ⟨arr, l4, l5⟩ := l3 (min n dlen) (Nat.min_le_left _ _)
        have hrun : ∀ (base : Option Addr) (cap' : Nat), (Builtin.copy_ (t :: ats).toArray ty #[.slice base dlen cap', a.eval y']).run P w =
            ((match base with | some a => storeCells a arr.toList | none => pure () : Sem Unit).run P w).andThen fun _ w2 => .ok (goInt (min n dlen : Nat)) w2 := by
          intro base cap'
          unfold Builtin.copy_
          have hmin : Nat.min n dlen = min n dlen := rfl
          simp only [List.getElem?_toArray, List.getElem?_cons_zero, List.getElem?_cons_succ, Sem.run_bind, r_und u1, Result.andThen_ok, l1, r_size u2, u5, hmin, l4]
          cases base <;> simp
        split at h
        · cases h
        · rename_i hez
          cases b with
          | none =>
            obtain ⟨rfl, rfl, ex⟩ := hX
            cases h
            have := hrun none 0
            simp only [Nat.min_zero] at this
            exact ⟨.int .i64 0, w, ι, fin ex this, s, Ext.refl _ _ _, rfl⟩
          | some bo =>
            obtain ⟨b, q⟩ := bo
            have hez' : ez = esz := by simpa using hez
            subst hez'
            obtain ⟨hlc, A, cap', ex, g3, gg⟩ := hX
            have hr := hrun (some A) cap'
            dsimp only at h
            split at h
            · rename_i h0
              cases h
              rw [h0] at l5
              have harr : arr.toList = [] := by simpa [RelL] using l5
              rw [harr] at hr
              exact ⟨_, w, ι, fin ex hr, s, Ext.refl _ _ _, rfl⟩
            · rename_i h0
              simp only [Option.map_eq_some_iff] at h
              obtain ⟨H0, h2, h3⟩ := h; cases h3
              have hd : 0 < dlen := by
                rcases Nat.eq_zero_or_pos dlen with hz | hz
                · subst hz; simp at h0
                · exact hz
              obtain ⟨c, p, z, r, g1, rfl, g4, g5⟩ := gg (by omega)
              obtain ⟨r1, r2, r3⟩ := run_wr (P := P) hf s g1 h2 l5
              rw [g5 (by omega)] at hr
              simp only [r1] at hr
              rw [g5 (by omega)] at ex
              exact ⟨_, _, ι, fin ex hr, r2, r3, rfl⟩
      · cases h
    · cases h
  · cases hc

theorem write_sound (p : AOp) (o : Oper) : WS L P ι H w fr a p o := by
  cases p
  case store n x y => exact ws_store hf s n x y o
  case append esz eb x y => exact ws_append hf s esz eb x y o
  case copy esz x y => exact ws_copy hf s esz x y o
  all_goals (intro v H' hc h; simp [ckW] at hc)

/-- Which operation of the model it is, whatever it does (calls apart). -/
def ckS (L : Lk) (P : Program) (p : AOp) (o : Op) : Bool := ckQ L P p o || ckF L P p o || ckW L P p o

omit hf s in
theorem step_fresh {p : AOp} {o : Op} (hc : ckF L P p o = true) {v : V} {H' : Heap} (h : step fr H p = some (v, H')) : ∃ cs mk, fresh fr p = some (cs, mk) ∧ v = mk H.next ∧ H' = H.new (.cells cs true) := by
  cases p <;> try (simp [ckF] at hc; done)
  all_goals
    simp only [step] at h
    split at h
    · rename_i cs mk hfr
      cases h
      exact ⟨cs, mk, hfr, rfl, rfl⟩
    · cases h

/-- What a step comes to. -/
theorem step_sound {p : AOp} {o : Oper} {v : V} {H' : Heap} (hc : ckS L P p o.op = true) (h : step fr H p = some (v, H')) : ∃ v' w' ι', Does P o a w v' w' ∧ Sim L ι' H' w' ∧ Ext ι H w ι' H' w' ∧ Rel L ι' v v' := by
  simp only [ckS, Bool.or_eq_true] at hc
  rcases hc with (hc | hc) | hc
  · obtain ⟨rfl, v', h1, h2⟩ := quiet_sound (P := P) hf s p o v H' hc h
    exact ⟨v', w, ι, .inl h1, s, Ext.refl _ _ _, h2⟩
  · obtain ⟨cs, mk, h1, rfl, rfl⟩ := step_fresh hc h
    obtain ⟨arr, ty, v', r1, r2, r3⟩ := (fresh_sound (ι := ι) (w := w) hf hc h1).ex
    obtain ⟨s2, x2⟩ := s.fresh (l := cs) (arr := arr) ty (by rw [r2.length, Array.length_toList]; exact Nat.le_refl _) (fun i v hv => by
      obtain ⟨v', q1, q2⟩ := r2.get hv
      exact ⟨v', by rw [Array.getElem?_toList] at q1; exact q1, q2⟩)
    exact ⟨v', _, _, .inl r1, s2, x2, r3 _ _ (by unfold Ab.upd; exact if_pos rfl)⟩
  · exact write_sound hf s p o v H' hc h

end
end Go.Ab
namespace Go.Ab
variable {L : Lk} {ι : Im} {H : Heap} {w : World} {P : Program} {fr : Fr} {a : Act}
/-- The type of a map whose keys are ints. -/
def ckMap (P : Program) (t : TypeId) : Bool := match P.underlying t with
  | some (.map k _) => (match P.underlying k with | some (.int .i64) => true | _ => false)
  | _ => false
theorem ckMap_spec {t : TypeId} (h : ckMap P t = true) : ∃ k e, P.underlying t = some (.map k e) ∧ P.underlying k = some (.int .i64) := by
  unfold ckMap at h
  split at h
  · rename_i k e hm
    split at h
    · rename_i hk; exact ⟨k, e, hm, hk⟩
    · cases h
  · cases h

/-- A map's type, its elements' zero value. -/
def ckMz (L : Lk) (P : Program) (t : TypeId) (z : V) : Bool := match P.underlying t with
  | some (.map _ e) => (P.info? e).any fun i => match i.zero with | some zv => ckV L z zv | none => false
  | _ => false

/-- A slice of bytes; a string. -/
def ckBytes (P : Program) (t : TypeId) : Bool := match P.underlying t with
  | some (.slice e) => (match P.underlying e with | some (.int .u8) => true | _ => false)
  | _ => false
theorem ckBytes_spec {t : TypeId} (h : ckBytes P t = true) : ∃ e, P.underlying t = some (.slice e) ∧ P.underlying e = some (.int .u8) := by
  unfold ckBytes at h
  split at h
  · rename_i e hm
    split at h
    · rename_i hk; exact ⟨e, hm, hk⟩
    · cases h
  · cases h
def ckStr (P : Program) (t : TypeId) : Bool := match P.underlying t with
  | some .string => true
  | _ => false
theorem ckStr_spec {t : TypeId} (h : ckStr P t = true) : P.underlying t = some .string := by
  unfold ckStr at h
  split at h
  · assumption
  · cases h

def ckDel (L : Lk) (P : Program) (m k : Opd) (c : Go.Call) : Bool :=
  match c.callee, c.args.toList, c.argTypes.toList with
  | .builtin .delete, [m', k'], [t, _] => ckOpd L m m' && ckOpd L k k' && ckMap P t
  | _, _, _ => false

/-- Operations on maps: which of the model's they are. -/
def ckM (L : Lk) (P : Program) (q : MOp) (o : Op) : Bool :=
  match q with
  | .mk => (match o with | .makeMap _ none => true | _ => false)
  | .look z ok m k => (match o with | .lookup t m' k' ok' => ckOpd L m m' && ckOpd L k k' && ok == ok' && ckMap P t && ckMz L P t z | _ => false)
  | .upd m k v => (match o with | .mapUpdate t m' k' v' => ckOpd L m m' && ckOpd L k k' && ckOpd L v v' && ckMap P t | _ => false)
  | .range m => (match o with | .range t m' => ckOpd L m m' && ckMap P t | _ => false)
  | .next it => (match o with | .next i b => ckOpd L it i && !b | _ => false)
  | .entry it => (match o with | .entry i => ckOpd L it i | _ => false)
  | .app2 esz eb x y => (match o with | .call c => ckApp L P esz eb x y c | _ => false)
  | .del m k => (match o with | .call c => ckDel L P m k c | _ => false)
  | .mark x => (match o with | .convert t u x' => ckOpd L x x' && t == u && ckBytes P u | _ => false)
  | .s2b x => (match o with | .convert t u x' => ckOpd L x x' && (P.underlying t).isSome && ckBytes P u | _ => false)
  | .b2s x => (match o with | .convert t u x' => ckOpd L x x' && ckBytes P t && ckStr P u | _ => false)

theorem RelE.length : ∀ {l : List (Int × V)} {s : List MapEntry}, RelE L ι l s → l.length = s.length
  | [], s, r => by rw [show s = [] from r]; rfl
  | (_, _) :: l, _, ⟨x, s, e, _, _, u⟩ => by rw [e, List.length_cons, List.length_cons, u.length]
theorem RelE.get : ∀ {l : List (Int × V)} {s : List MapEntry} {i : Nat} {e : MapEntry}, RelE L ι l s → s[i]? = some e → ∃ k v, l[i]? = some (k, v) ∧ e.key = .int .i64 k ∧ Rel L ι v e.val
  | [], _, i, e, r, h => by rw [show _ = [] from r] at h; cases h
  | (k, v) :: l, _, 0, e, ⟨x, s, q, r1, r2, _⟩, h => by
    rw [q, List.getElem?_cons_zero] at h; cases h; exact ⟨k, v, rfl, r1, r2⟩
  | (k, v) :: l, _, i + 1, e, ⟨x, s, q, _, _, u⟩, h => by
    rw [q, List.getElem?_cons_succ] at h
    obtain ⟨k', v', h1, h2⟩ := u.get h
    exact ⟨k', v', by rw [List.getElem?_cons_succ]; exact h1, h2⟩
theorem RelE.find : ∀ {l : List (Int × V)} {s : List MapEntry} (n : Int) (i : Nat), RelE L ι l s →
    match mget l n with
    | some v => ∃ j x e, Instr.findNow (.int .i64) (.int .i64 n) s i = some (some (i + j, x)) ∧ Rel L ι v x ∧ s[j]? = some e ∧ e.key = .int .i64 n ∧
        ∀ v' x', Rel L ι v' x' → RelE L ι (mput l n v') (s.modify j fun e => { e with key := .int .i64 n, val := x' })
    | none => Instr.findNow (.int .i64) (.int .i64 n) s i = some none ∧ ∀ v' x' b, Rel L ι v' x' → RelE L ι (mput l n v') (s ++ [{ key := .int .i64 n, val := x', born := b }])
  | [], s, n, i, r => by
    rw [show s = [] from r]
    exact ⟨rfl, fun v' x' b h => ⟨_, _, rfl, rfl, h, rfl⟩⟩
  | (k, v) :: l, _, n, i, ⟨y, s, q, r1, r2, u⟩ => by
    subst q
    by_cases hk : n = k
    · subst hk
      simp only [mget, if_true, mput]
      refine ⟨0, y.val, y, ?_, r2, rfl, r1, fun v' x' h => ⟨_, s, rfl, rfl, h, u⟩⟩
      unfold Instr.findNow
      rw [r1]; simp [Instr.sameNow]
    · simp only [mget, if_neg hk, mput]
      have ih := RelE.find n (i + 1) u
      have hf : Instr.findNow (.int .i64) (.int .i64 n) (y :: s) i = Instr.findNow (.int .i64) (.int .i64 n) s (i + 1) := by
        conv => lhs; unfold Instr.findNow
        rw [r1]
        have : (n == k) = false := by simpa using hk
        simp [Instr.sameNow, this]
      rw [hf]
      split at ih
      · rename_i v0 hv0
        obtain ⟨j, x, e, h1, h2, h3, h4, h5⟩ := ih
        exact ⟨j + 1, x, e, by rw [h1, Nat.add_assoc, Nat.add_comm 1 j], h2, by rw [List.getElem?_cons_succ]; exact h3, h4, fun v' x' h => ⟨y, _, rfl, r1, r2, h5 v' x' h⟩⟩
      · rename_i hv0
        exact ⟨ih.1, fun v' x' b h => ⟨y, _, rfl, r1, r2, ih.2 v' x' b h⟩⟩

theorem RelE.fdel : ∀ {l : List (Int × V)} {s : List MapEntry} (n : Int) (i : Nat), RelE L ι l s →
    match mget l n with
    | some _ => ∃ j x, Instr.findNow (.int .i64) (.int .i64 n) s i = some (some (i + j, x)) ∧ RelE L ι (mdel l n) (s.eraseIdx j)
    | none => Instr.findNow (.int .i64) (.int .i64 n) s i = some none ∧ mdel l n = l
  | [], s, n, i, r => by
    rw [show s = [] from r]
    exact ⟨rfl, rfl⟩
  | (k, v) :: l, _, n, i, ⟨y, s, q, r1, r2, u⟩ => by
    subst q
    by_cases hk : n = k
    · subst hk
      simp only [mget, if_true, mdel]
      refine ⟨0, y.val, ?_, u⟩
      unfold Instr.findNow
      rw [r1]; simp [Instr.sameNow]
    · simp only [mget, if_neg hk, mdel]
      have ih := RelE.fdel n (i + 1) u
      have hf : Instr.findNow (.int .i64) (.int .i64 n) (y :: s) i = Instr.findNow (.int .i64) (.int .i64 n) s (i + 1) := by
        conv => lhs; unfold Instr.findNow
        rw [r1]
        have : (n == k) = false := by simpa using hk
        simp [Instr.sameNow, this]
      rw [hf]
      split at ih
      · obtain ⟨j, x, h1, h2⟩ := ih
        exact ⟨j + 1, x, by rw [h1, Nat.add_assoc, Nat.add_comm 1 j], ⟨y, _, rfl, r1, r2, h2⟩⟩
      · exact ⟨ih.1, by rw [ih.2]⟩

theorem born_of {es : Array MapEntry} (h : ∀ (i : Nat) (e : MapEntry), es[i]? = some e → e.born = i) : (es.toList.map (·.born)).Nodup := by
  have : es.toList.map (·.born) = List.range es.size := by
    apply List.ext_getElem?
    intro i
    rw [List.getElem?_map, Array.getElem?_toList]
    rcases Nat.lt_or_ge i es.size with hi | hi
    · rw [Array.getElem?_eq_getElem hi, Option.map_some, h i _ (Array.getElem?_eq_getElem hi), List.getElem?_range hi]
    · rw [Array.getElem?_eq_none hi, Option.map_none, List.getElem?_eq_none (by rw [List.length_range]; exact hi)]
  rw [this]; exact List.nodup_range

theorem drew_sim (s : Sim L ι H w) : Sim L ι H w.drew := ⟨s.dn, s.nx, s.lt, s.ok, s.inj⟩
theorem drew_ext : Ext ι H w ι H w.drew := ⟨ILe.refl _, Nat.le_refl _, Nat.le_refl _, fun _ _ _ h => h, (fun _ _ _ _ h k => by rw [h] at k; cases k), fun _ _ _ => rfl, fun _ _ h => h, rfl, rfl, rfl⟩

theorem ro_map {H : Heap} {b : Nat} {es : List (Int × V)} (h : H.get b = .map es) : ¬ RO H b := fun ⟨l, hl⟩ => by rw [h] at hl; cases hl
theorem ro_dmap {H : Heap} {b : Nat} {es : List (Int × V)} (h : H.get b = .dmap es) : ¬ RO H b := fun ⟨l, hl⟩ => by rw [h] at hl; cases hl
theorem ro_iter {H : Heap} {b m s : Nat} {seen : List Nat} (h : H.get b = .iter m s seen) : ¬ RO H b := fun ⟨l, hl⟩ => by rw [h] at hl; cases hl

/-- Room behind a block, of which nothing is known. -/
theorem Sim.pad {b c p z : Nat} {l : List V} (k : Nat) (s : Sim L ι H w) (hb : ι b = some (c, p, z)) (hg : H.get b = .cells l true) (hz : p + l.length + k ≤ z) :
    Sim L ι (H.put b (.cells (l ++ List.replicate k .un) true)) w ∧ Ext ι H w ι (H.put b (.cells (l ++ List.replicate k .un) true)) w := by
  have hget : ∀ x, (H.put b (.cells (l ++ List.replicate k .un) true)).get x = if x = b then .cells (l ++ List.replicate k .un) true else H.get x := fun _ => rfl
  have live : ∀ x, (H.put b (.cells (l ++ List.replicate k .un) true)).get x ≠ .dead → H.get x ≠ .dead := fun x hx => by
    rw [hget] at hx
    by_cases hxb : x = b
    · subst hxb; rw [hg]; intro h; cases h
    · rw [if_neg hxb] at hx; exact hx
  have ro : ∀ x, RO H x → RO (H.put b (.cells (l ++ List.replicate k .un) true)) x := fun x ⟨l', e⟩ => by
    by_cases hxb : x = b
    · subst hxb; rw [hg] at e; cases e
    · exact ⟨l', by rw [hget, if_neg hxb]; exact e⟩
  refine ⟨⟨fun x hx => ?_, s.nx, s.lt, fun x c' p' z' e => ?_, fun x y c' p1 z1 p2 z2 ex ey lx ly lr => s.inj x y c' p1 z1 p2 z2 ex ey (live x lx) (live y ly) fun h => lr (ro x h)⟩,
    ⟨ILe.refl _, Nat.le_refl _, Nat.le_refl _, fun x lx _ hx => ?_, (fun x c p z e e' => by rw [e] at e'; cases e'), fun _ _ _ => rfl, fun _ _ h => h, rfl, rfl, rfl⟩⟩
  · rw [hget]
    by_cases hxb : x = b
    · subst hxb; have := s.dn x hx; rw [hg] at this; cases this
    · rw [if_neg hxb]; exact s.dn x hx
  · rw [hget]
    by_cases hxb : x = b
    · subst hxb
      rw [if_pos rfl]
      rw [hb] at e; cases e
      obtain ⟨arr, ty, fz, e1, e2, e3, e4, h5⟩ := s.row hb hg
      refine ⟨arr, ty, fz, e1, e2, by simp; omega, fun _ => e4 rfl, fun i v hv => ?_⟩
      by_cases hi : i < l.length
      · rw [List.getElem?_append_left hi] at hv; exact h5 i v hv
      · rw [List.getElem?_append_right (by omega), List.getElem?_replicate] at hv
        split at hv
        · cases hv
          exact ⟨arr[p + i]'(by omega), Array.getElem?_eq_getElem (by omega), trivial⟩
        · cases hv
    · rw [if_neg hxb]; exact s.ok x c' p' z' e
  · rw [hget]
    by_cases hxb : x = b
    · subst hxb; rw [hg] at hx; cases hx
    · rw [if_neg hxb]; exact hx
theorem app2_sound {esz eb nt : Nat} {x y : Opd} {o : Oper} {d : Option Nat} (s : Sim L ι H w) (hf : FrRel L ι fr a.tmps) (hc : ckM L P (.app2 esz eb x y) o.op = true) {K : Fr → Heap → Prop} (h : evM fr H d (.app2 esz eb x y) K) :
    ∃ v v' H' w' ι', Does P o a w v' w' ∧ Sim L ι' H' w' ∧ Ext ι H w ι' H' w' ∧ Rel L ι' v v' ∧ K (fr.put d v) H' := by
  obtain ⟨od, oo, ty, pos, af, og⟩ := o
  simp only [ckM] at hc
  split at hc
  rotate_left
  · cases hc
  rename_i cl
  obtain ⟨cle, args, argTypes⟩ := cl
  unfold ckApp at hc
  dsimp only at hc
  split at hc
  rotate_left
  · cases hc
  rename_i x' y' t u ha ht
  have ea : args = #[x', y'] := by cases args; simp_all
  have et : argTypes = #[t, u] := by cases argTypes; simp_all
  subst ea et
  simp only [Bool.and_eq_true] at hc
  obtain ⟨⟨⟨hx, hy⟩, hel⟩, hu⟩ := hc
  obtain ⟨e, i, zv, u1, u2, u3, u4, u5, u6, u7⟩ : ∃ e i zv, P.underlying t = some (.slice e) ∧ P.info? e = some i ∧ i.zero = some zv ∧ zv.cells.size = esz ∧ i.size = esz ∧ 0 < esz ∧ i.bytes = eb ∧ 0 < eb := by
    split at hel
    · rename_i e he
      simp only [Bool.and_eq_true, decide_eq_true_eq, Option.any_eq_true, beq_iff_eq] at hel
      obtain ⟨h1, i, h2, ⟨⟨h3, h4⟩, h5⟩, zv, h6, h7⟩ := hel
      exact ⟨e, i, zv, he, h2, h6, h7, h3, h1, h4, h5⟩
    · cases hel
  obtain ⟨ud, uu, uz⟩ : ∃ ud, P.underlying u = some ud ∧ ((∃ e', ud = .slice e') ∨ ud = .string) := by
    split at hu
    · rename_i e' he; exact ⟨_, he, .inl ⟨e', rfl⟩⟩
    · rename_i he; exact ⟨_, he, .inr rfl⟩
    · cases hu
  simp only [evM] at h
  split at h
  rotate_left
  · exact h.elim
  rename_i b q len cap ez Y e1 e2
  have hX := opd_rel hf hx e1
  have hY := opd_rel hf hy e2
  split at h
  rotate_left
  · exact h.elim
  rename_i n new l hfs hg
  obtain ⟨rfl, hlen, rfl, hn, hql, hones, hgrow, hk1, hk2⟩ := h
  obtain ⟨l1, l2, l3⟩ := firsts_sound (P := P) s hfs hY
  obtain ⟨arr, l4, l5⟩ := l3 n (Nat.le_refl _)
  rw [← l2, List.take_length] at l5
  have l6 := l5.length
  have fin : ∀ {base : Option Addr} {cap' : Nat} {v' : Value} {w' : World}, a.eval x' = .slice base cap cap' → (Builtin.append_ #[t, u] ty #[.slice base cap cap', a.eval y']).run P w = .ok v' w' →
      Does P ⟨od, .call ⟨.builtin .append, #[x', y'], #[t, u]⟩, ty, pos, af, og⟩ a w v' w' := by
    intro base cap' v' w' hX' hrun
    refine .inl ?_
    rw [← hX'] at hrun
    simp only [execOp, resolve, Sem.run_bind, Sem.run_pure, Result.andThen_ok, invoke, builtin, List.map_toArray, List.map_cons, List.map_nil, hrun]
  obtain ⟨hlc, A, cap', ex, g3, gg⟩ := hX
  obtain ⟨c, p, z, r, g1, rfl, g4, g5⟩ := gg (by omega)
  have hr := g5 hlen
  subst hr
  by_cases hcap : cap + n ≤ cap'
  · -- there is room behind it
    have hfin := run_append (P := P) (w := w) (ty := ty) (base := some ⟨c, p + q, none⟩) (len := cap) (cap' := cap') (n := n) (Y := a.eval y') u1 u2 u3 u5 u7.1 u7.2 uu uz l1 (fun hc => absurd hcap hc)
    rw [if_pos hcap, l4] at hfin
    simp only [Result.andThen_ok, add_at] at hfin
    have hroom : (cap + n) * ez ≤ cap' * ez := Nat.mul_le_mul_right _ hcap
    rw [Nat.add_mul] at hroom
    obtain ⟨sp, xp⟩ := s.pad new.length g1 hg (by omega)
    have hw : wr (H.put b (.cells (l ++ List.replicate new.length .un) true)) b l.length new = some ((H.put b (.cells (l ++ List.replicate new.length .un) true)).put b (.cells (over (l ++ List.replicate new.length .un) l.length new) true)) := by
      have hgg : (H.put b (.cells (l ++ List.replicate new.length .un) true)).get b = .cells (l ++ List.replicate new.length .un) true := by show (if b = b then _ else _) = _; rw [if_pos rfl]
      unfold wr
      rw [hgg]
      dsimp only
      rw [if_pos (by simp), if_pos hones]
    obtain ⟨r1, r2, r3⟩ := run_wr (P := P) hf sp g1 hw l5
    have eo : over (l ++ List.replicate new.length .un) l.length new = l ++ new := by simp [over]
    have eH : (H.put b (.cells (l ++ List.replicate new.length .un) true)).put b (.cells (over (l ++ List.replicate new.length .un) l.length new) true) = H.put b (.cells (l ++ new) true) := by
      rw [eo]; unfold Heap.put; congr 1; funext x; by_cases hx : x = b <;> simp [hx]
    rw [eH] at r2 r3
    rw [show p + q + cap * ez = p + l.length by omega, r1] at hfin
    exact ⟨.sl (some (b, q)) (cap + n) (cap + n) ez, _, _, _, ι, fin ex hfin, r2, xp.trans s sp r3, ⟨Nat.le_refl _, _, cap', rfl, hcap, fun _ => ⟨c, p, z, p + q, g1, rfl, g4, fun _ => rfl⟩⟩, hk1⟩
  · have hfin := run_append (P := P) (w := w) (ty := ty) (base := some ⟨c, p + q, none⟩) (len := cap) (cap' := cap') (n := n) (Y := a.eval y') u1 u2 u3 u5 u7.1 u7.2 uu uz l1 (fun hc => by
      simp only [growOk, decide_eq_true_eq] at hgrow
      have := nextcap_le (need := cap + n) (cap := cap') (by omega)
      exact Nat.le_trans (Nat.mul_le_mul_right _ this) hgrow)
    rw [if_neg hcap] at hfin
    have sD : Sim L ι H { w with drawn := w.drawn + 1 } := ⟨s.dn, s.nx, s.lt, s.ok, s.inj⟩
    obtain ⟨_, _, l3'⟩ := firsts_sound (P := P) sD hfs hY
    obtain ⟨arr2, k4, k5⟩ := l3' n (Nat.le_refl _)
    rw [← l2, List.take_length] at k5
    have hp : Ab.piece l q (cap * ez) = some (l.drop q) := by unfold Ab.piece; rw [if_pos (by omega), List.take_of_length_le (by simp; omega)]
    obtain ⟨ws, j1, j2, j3⟩ := sD.piece g1 hg hp
    have hold : (Builtin.firstCells ez cap (.slice (some ⟨c, p + q, none⟩) cap cap')).run P { w with drawn := w.drawn + 1 } = .ok ws.toArray { w with drawn := w.drawn + 1 } := by
      show (loadCells ⟨c, p + q, none⟩ (cap * ez)).run P _ = _
      exact run_loadCells c (p + q) (cap * ez) ws j2 j3
    rw [hold] at hfin
    simp only [Result.andThen_ok] at hfin
    rw [k4] at hfin
    have hcells : RelL L ι (l.drop q ++ new) (ws ++ arr2.toList) := j1.append k5
    obtain ⟨s2, x2⟩ := sD.fresh (l := l.drop q ++ new) (arr := (ws.toArray ++ arr2 ++ Builtin.zeroCells zv.cells ((Question.appendCap (cap + n) cap' e).cut (w.tape w.drawn (Question.appendCap (cap + n) cap' e)) - (cap + n)))) e
      (by have := hcells.length; simp at this ⊢; omega) (fun i0 v0 hv0 => by
        obtain ⟨v', q1, q2⟩ := hcells.get hv0
        refine ⟨v', ?_, q2⟩
        have hlt : i0 < (ws ++ arr2.toList).length := (List.getElem?_eq_some_iff.1 q1).1
        rw [Array.getElem?_append_left (by simp at hlt ⊢; omega), ← Array.getElem?_toList]
        simpa using q1)
    refine ⟨.sl (some (H.next, 0)) (cap + n) (cap + n) ez, _, _, _, _, fin ex hfin, s2, ⟨x2.le, x2.hs, x2.hn, x2.ro, x2.new, x2.kept, x2.dom, x2.os, x2.tape, x2.output⟩, ⟨Nat.le_refl _, ?_⟩, hk2⟩
    refine ⟨_, _, rfl, ?_, fun _ => ⟨w.heap.size, 0, _, 0, by unfold Ab.upd; exact if_pos rfl, rfl, ?_, fun _ => rfl⟩⟩
    · simp only [Question.cut]; omega
    · have h1 := k5.length
      have hcut : cap + n ≤ (Question.appendCap (cap + n) cap' e).cut (w.tape w.drawn (Question.appendCap (cap + n) cap' e)) := by simp only [Question.cut]; omega
      simp only [Array.size_append, Builtin.zeroCells, Array.size_map, Array.size_range, u4]
      have h1' : arr2.size = n * ez := by rw [← Array.length_toList, ← k5.length, l2]
      rw [h1', Nat.sub_mul, Nat.add_mul]
      have := Nat.mul_le_mul_right ez hcut
      rw [Nat.add_mul] at this
      simp [j2]; omega
theorem bytesWorld_eq (e : TypeId) (st : ByteArray) : Lib.bytesWorld w e st = pushO { w with drawn := w.drawn + 1 } (.cells (Lib.bytesCells w e st) e ((Lib.bytesCells w e st).size, (Lib.bytesCells w e st).size + 1)) := by
  have h1 := Lib.bytesWorld_at_new w e st
  have h2 := Lib.bytesWorld_size w e st
  have h3 : (Lib.bytesWorld w e st).heap = w.heap.push (.cells (Lib.bytesCells w e st) e ((Lib.bytesCells w e st).size, (Lib.bytesCells w e st).size + 1)) := by
    apply Array.ext_getElem?
    intro i
    rcases Nat.lt_trichotomy i w.heap.size with hi | hi | hi
    · rw [Lib.bytesWorld_at_old w e st i hi, Array.getElem?_push, if_neg (by omega)]
    · subst hi; rw [h1, Array.getElem?_push, if_pos rfl]
    · rw [Array.getElem?_eq_none (by omega), Array.getElem?_eq_none (by simp; omega)]
  calc Lib.bytesWorld w e st = ⟨(Lib.bytesWorld w e st).heap, w.tape, w.drawn + 1, w.os, w.output⟩ := rfl
    _ = _ := by rw [h3]; rfl
theorem Sim.bytes (s : Sim L ι H w) (e : TypeId) (st : ByteArray) :
    Sim L (upd ι H.next w.heap.size 0 (Lib.bytesCells w e st).size) (H.new (.cells (st.data.toList.map fun b => .int .u8 b.toNat) true)) (Lib.bytesWorld w e st) ∧
      Ext ι H w (upd ι H.next w.heap.size 0 (Lib.bytesCells w e st).size) (H.new (.cells (st.data.toList.map fun b => .int .u8 b.toNat) true)) (Lib.bytesWorld w e st) := by
  have sD : Sim L ι H { w with drawn := w.drawn + 1 } := ⟨s.dn, s.nx, s.lt, s.ok, s.inj⟩
  rw [bytesWorld_eq]
  obtain ⟨s2, x2⟩ := sD.freshZ (o := .cells (st.data.toList.map fun b => .int .u8 b.toNat) true) (x := .cells (Lib.bytesCells w e st) e ((Lib.bytesCells w e st).size, (Lib.bytesCells w e st).size + 1)) (Lib.bytesCells w e st).size (fun ι' _ => by
    refine ⟨_, _, _, rfl, rfl, ?_, fun _ => .inr (Nat.le_refl _), fun i v hv => ?_⟩
    · simp [Lib.bytesCells]
    · rw [List.getElem?_map] at hv
      obtain ⟨u, h1, rfl⟩ := Option.map_eq_some_iff.1 hv
      have hlt : i < st.data.size := by have := (List.getElem?_eq_some_iff.1 h1).1; simpa using this
      refine ⟨.int .u8 u.toNat, ?_, rfl⟩
      unfold Lib.bytesCells
      rw [Nat.zero_add, Array.getElem?_append_left (by simpa using hlt), Array.getElem?_map, ← Array.getElem?_toList, h1]
      rfl)
  exact ⟨s2, ⟨x2.le, x2.hs, x2.hn, x2.ro, x2.new, x2.kept, x2.dom, x2.os, x2.tape, x2.output⟩⟩
theorem freeze_eq {c n : Nat} {arr : Array Value} {ty : TypeId} {fz : Nat × Nat} (h : w.heap[c]? = some (.cells arr ty fz)) :
    w.freeze ⟨c, n, none⟩ 1 = setO w c (.cells arr ty (if fz.1 == fz.2 then (n, n + 1) else (min fz.1 n, max fz.2 (n + 1)))) := by
  unfold World.freeze setO
  rw [if_neg (by decide)]
  congr 1
  apply Array.ext_getElem?
  intro i
  rw [Array.getElem?_modify, Array.getElem?_setIfInBounds]
  by_cases hi : c = i
  · subst hi
    rw [if_pos rfl, if_pos rfl, h, if_pos (Array.getElem?_eq_some_iff.1 h).1]
    rfl
  · rw [if_neg hi, if_neg hi]
theorem u8s_map : ∀ {cs : List V} {ns : List Int}, u8sO cs = some ns → cs = ns.map (V.int .u8)
  | [], _, h => by cases h; rfl
  | .int .u8 n :: r, ns, h => by
    unfold u8sO at h
    obtain ⟨l, h1, rfl⟩ := Option.map_eq_some_iff.1 h
    rw [u8s_map h1]; rfl
theorem rel_u8s : ∀ {ns : List Int} {vs : List Value}, RelL L ι (ns.map (V.int .u8)) vs → vs = ns.map (Value.int .u8)
  | [], _, h => h
  | n :: r, _, ⟨w, s, h1, h2, h3⟩ => by rw [h1, rel_u8s h3, show w = Value.int .u8 n from h2]; rfl

/-- **An operation on a map.** -/
theorem evM_sound {q : MOp} {o : Oper} {nt : Nat} {d : Option Nat} (s : Sim L ι H w) (hf : FrRel L ι fr a.tmps) (hc : ckM L P q o.op = true) {K : Fr → Heap → Prop} (h : evM fr H d q K) :
    ∃ v v' H' w' ι', Does P o a w v' w' ∧ Sim L ι' H' w' ∧ Ext ι H w ι' H' w' ∧ Rel L ι' v v' ∧ K (fr.put d v) H' := by
  cases q with
  | app2 esz eb x y => exact app2_sound (nt := nt) s hf hc h
  | mark x =>
    obtain ⟨od, oo, ty, pos, af, og⟩ := o
    simp only [ckM] at hc
    split at hc
    · rename_i src dst x'
      simp only [Bool.and_eq_true, beq_iff_eq] at hc
      obtain ⟨⟨c1, rfl⟩, c3⟩ := hc
      obtain ⟨e, h1, h2⟩ := ckBytes_spec c3
      simp only [evM] at h
      split at h
      · rename_i b q n cp ez g1
        have hr := opd_rel hf c1 g1
        split at h
        · rename_i l hg
          obtain ⟨hcp, h⟩ := h
          have hr' := hr
          obtain ⟨hlc, A, cap', ex, g3, gg⟩ := hr
          obtain ⟨c, p, z, r, k1, rfl, k4, k5⟩ := gg (by omega)
          obtain ⟨arr, ty0, fz, w1, w2, w3, w4, w5⟩ := s.row k1 hg
          obtain ⟨s2, x2⟩ := s.setObj (o' := .cells l true) (x := .cells arr ty0 (if fz.1 == fz.2 then (arr.size, arr.size + 1) else (min fz.1 arr.size, max fz.2 (arr.size + 1)))) k1 (by rw [hg]; intro h; cases h) (not_ro hg) (fun l h => by cases h)
            ⟨arr, ty0, _, rfl, w2, w3, fun _ => .inr (by
              have := w4 rfl
              split
              · exact Nat.le_of_eq w2.symm
              · rename_i hne
                rcases this with h | h
                · exact absurd h.symm (by simpa using hne)
                · show z ≤ min fz.1 arr.size
                  omega), w5⟩
          refine ⟨.sl (some (b, q)) n cp ez, a.eval x', _, _, ι, .inl ?_, s2, x2, hr', h⟩
          have hsh : w.shape? c = some (ty0, arr.size) := by simp only [World.shape?, w1]
          rw [ex, ← freeze_eq w1]
          simp only [execOp, ex, Sem.run_bind, Sem.run_pure]
          simp [convert, run_underlying h1, run_underlying h2, markStringish, hsh, Result.andThen]
        · exact h.elim
      · exact h.elim
    · cases hc
  | s2b x =>
    obtain ⟨od, oo, ty, pos, af, og⟩ := o
    simp only [ckM] at hc
    split at hc
    · rename_i src dst x'
      simp only [Bool.and_eq_true] at hc
      obtain ⟨⟨c1, c2⟩, c3⟩ := hc
      obtain ⟨e, h1, h2⟩ := ckBytes_spec c3
      obtain ⟨u, hu⟩ := Option.isSome_iff_exists.1 c2
      simp only [evM] at h
      split at h
      · rename_i st g1
        have e1 : _ = Value.string st := opd_rel hf c1 g1
        obtain ⟨s2, x2⟩ := s.bytes e st
        have hcap : st.size ≤ grownCap w st.size 0 e := by simp only [grownCap, Question.cut]; omega
        refine ⟨.sl (some (H.next, 0)) st.size st.size 1, _, _, _, _, .inl ?_, s2, x2, ⟨Nat.le_refl _, _, grownCap w st.size 0 e, rfl, hcap, fun _ => ⟨w.heap.size, 0, _, 0, by unfold Ab.upd; exact if_pos rfl, rfl, ?_, fun _ => rfl⟩⟩, h⟩
        · simp only [execOp, e1, Lib.run_convert_string_bytes w src dst e st hu h1 h2, Sem.run_bind, Result.andThen_ok, Sem.run_pure]
        · have : st.data.size = st.size := rfl
          simp [Lib.bytesCells]; omega
      · exact h.elim
    · cases hc
  | b2s x =>
    obtain ⟨od, oo, ty, pos, af, og⟩ := o
    simp only [ckM] at hc
    split at hc
    · rename_i src dst x'
      simp only [Bool.and_eq_true] at hc
      obtain ⟨⟨c1, c2⟩, c3⟩ := hc
      obtain ⟨e, h1, h2⟩ := ckBytes_spec c2
      have h3 := ckStr_spec c3
      simp only [evM] at h
      split at h
      · rename_i b n cp ez g1
        have e1 := opd_rel hf c1 g1
        split at h
        · rename_i n' cs hfs
          split at h
          · rename_i ns hns
            have hcs := u8s_map hns
            obtain ⟨l1, l2, l3⟩ := firsts_sound (P := P) s hfs e1
            refine ⟨.str (strOf ns), .string (strOf ns), H, w, ι, .inl ?_, s, Ext.refl _ _ _, rfl, h⟩
            cases b with
            | none =>
              cases hfs
              cases hns
              obtain ⟨_, _, e3⟩ := e1
              simp only [execOp, e3, run_convert_bytes_string w src dst e _ _ _ h1 h2 h3, Sem.run_bind, Result.andThen_ok, Sem.run_pure, Conv.bytesToString]
              rfl
            | some b =>
              obtain ⟨hlc, A, cap', ex, g3, gg⟩ := e1
              rw [ex] at l1 l3
              have hn' : n' = n := by
                have : (Result.ok n w : Result Nat) = .ok n' w := l1
                cases this; rfl
              subst hn'
              obtain ⟨arr, l4, l5⟩ := l3 n' (Nat.le_refl _)
              rw [← l2, List.take_length, hcs] at l5
              have l6 : arr = (ns.map (Value.int .u8)).toArray := by rw [← rel_u8s l5]
              have l7 : (loadCells A n').run P w = .ok arr w := by
                have : (loadCells A (n' * 1)).run P w = .ok arr w := l4
                rwa [Nat.mul_one] at this
              rw [l6] at l7
              simp only [execOp, ex, run_convert_bytes_string w src dst e _ _ _ h1 h2 h3, run_bytesToString w A n' cap' ns l7, Sem.run_bind, Result.andThen_ok, Sem.run_pure]
              rfl
          · exact h.elim
        · exact h.elim
      · exact h.elim
    · cases hc
  | mk =>
    obtain ⟨od, oo, ty, pos, af, og⟩ := o
    simp only [ckM] at hc
    split at hc
    · rename_i t
      obtain ⟨s2, x2⟩ := s.freshO (o := .map []) (x := .map #[] 0) (fun ι' _ => ⟨#[], rfl, rfl, fun i e he => by simp at he⟩)
      refine ⟨.map (some H.next), .map (some w.heap.size), _, _, _, .inl ?_, s2, x2, ⟨w.heap.size, 1, by unfold Ab.upd; rw [if_pos rfl], rfl⟩, h⟩
      simp only [execOp, Option.map_none, Instr.makeMap, Sem.run_bind, Result.andThen, Sem.run_pure]
      rfl
    · cases hc
  | look z ok m k =>
    obtain ⟨od, oo, ty, pos, af, og⟩ := o
    simp only [ckM] at hc
    split at hc
    · rename_i t m' k' ok'
      simp only [Bool.and_eq_true, beq_iff_eq] at hc
      obtain ⟨⟨⟨⟨c1, c2⟩, rfl⟩, c4⟩, c5⟩ := hc
      obtain ⟨kt, et, hm, hkt⟩ := ckMap_spec c4
      simp only [evM] at h
      split at h
      · rename_i r n g1 g2
        obtain ⟨c, zz, hι, e1⟩ := opd_rel hf c1 g1
        have e2 : _ = Value.int .i64 n := opd_rel hf c2 g2
        split at h
        · rename_i es hes
          obtain ⟨es', hx, hre, hborn⟩ : Okay L ι 0 zz (.map es) w.heap[c]? := by have := s.ok r c 0 zz hι; rw [hes] at this; exact this
          have hfind := hre.find n 0
          unfold ckMz at c5
          rw [hm] at c5
          simp only [Option.any_eq_true] at c5
          obtain ⟨inf, hi1, hi2⟩ := c5
          split at hi2
          · rename_i zv hz
            have hzr := ckV_rel L ι z zv hi2
            split at h
            · rename_i v hv
              rw [hv] at hfind
              obtain ⟨j, x, e, f1, f2, f3, f4, f5⟩ := hfind
              refine ⟨_, (if ok then .tuple #[x, .bool true] else x), H, w, ι, .inl ?_, s, Ext.refl _ _ _, ?_, h⟩
              · simp only [execOp, e1, e2, Instr.lookup, Sem.run_bind, run_underlying hm, Result.andThen, MapKept.run_getObj_map hx, Sem.run_pure, MapKept.run_checkKey (d := .int .i64) (k := .int .i64 n) hkt rfl, MapKept.run_findKey hkt f1]
              · cases ok
                · exact f2
                · exact ⟨_, rfl, _, _, rfl, f2, _, _, rfl, rfl, rfl⟩
            · rename_i hv
              rw [hv] at hfind
              have hzv : (zeroValue et).run P w = .ok zv w := by simp [zeroValue, typeInfo, hi1, hz, Result.andThen]
              refine ⟨_, (if ok then .tuple #[zv, .bool false] else zv), H, w, ι, .inl ?_, s, Ext.refl _ _ _, ?_, h⟩
              · simp only [execOp, e1, e2, Instr.lookup, Sem.run_bind, run_underlying hm, Result.andThen, MapKept.run_getObj_map hx, Sem.run_pure, MapKept.run_checkKey (d := .int .i64) (k := .int .i64 n) hkt rfl, MapKept.run_findKey hkt hfind.1, hzv]
              · cases ok
                · exact hzr
                · exact ⟨_, rfl, _, _, rfl, hzr, _, _, rfl, rfl, rfl⟩
          · cases hi2
        · rename_i es hes
          obtain ⟨es', ck, hx, hre⟩ : Okay L ι 0 zz (.dmap es) w.heap[c]? := by have := s.ok r c 0 zz hι; rw [hes] at this; exact this
          have hfind := hre.find n 0
          unfold ckMz at c5
          rw [hm] at c5
          simp only [Option.any_eq_true] at c5
          obtain ⟨inf, hi1, hi2⟩ := c5
          split at hi2
          · rename_i zv hz
            have hzr := ckV_rel L ι z zv hi2
            split at h
            · rename_i v hv
              rw [hv] at hfind
              obtain ⟨j, x, e, f1, f2, f3, f4, f5⟩ := hfind
              refine ⟨_, (if ok then .tuple #[x, .bool true] else x), H, w, ι, .inl ?_, s, Ext.refl _ _ _, ?_, h⟩
              · simp only [execOp, e1, e2, Instr.lookup, Sem.run_bind, run_underlying hm, Result.andThen, MapKept.run_getObj_map hx, Sem.run_pure, MapKept.run_checkKey (d := .int .i64) (k := .int .i64 n) hkt rfl, MapKept.run_findKey hkt f1]
              · cases ok
                · exact f2
                · exact ⟨_, rfl, _, _, rfl, f2, _, _, rfl, rfl, rfl⟩
            · rename_i hv
              rw [hv] at hfind
              have hzv : (zeroValue et).run P w = .ok zv w := by simp [zeroValue, typeInfo, hi1, hz, Result.andThen]
              refine ⟨_, (if ok then .tuple #[zv, .bool false] else zv), H, w, ι, .inl ?_, s, Ext.refl _ _ _, ?_, h⟩
              · simp only [execOp, e1, e2, Instr.lookup, Sem.run_bind, run_underlying hm, Result.andThen, MapKept.run_getObj_map hx, Sem.run_pure, MapKept.run_checkKey (d := .int .i64) (k := .int .i64 n) hkt rfl, MapKept.run_findKey hkt hfind.1, hzv]
              · cases ok
                · exact hzr
                · exact ⟨_, rfl, _, _, rfl, hzr, _, _, rfl, rfl, rfl⟩
          · cases hi2
        · exact h.elim
      · exact h.elim
    · cases hc
  | upd m k v =>
    obtain ⟨od, oo, ty, pos, af, og⟩ := o
    simp only [ckM] at hc
    split at hc
    · rename_i t m' k' v'
      simp only [Bool.and_eq_true] at hc
      obtain ⟨⟨⟨c1, c2⟩, c3⟩, c4⟩ := hc
      obtain ⟨kt, et, hm, hkt⟩ := ckMap_spec c4
      simp only [evM] at h
      split at h
      · rename_i r n x g1 g2 g3
        obtain ⟨c, zz, hι, e1⟩ := opd_rel hf c1 g1
        have e2 : _ = Value.int .i64 n := opd_rel hf c2 g2
        have r3 := opd_rel hf c3 g3
        split at h
        · rename_i es hes
          obtain ⟨es', hx, hre, hborn⟩ : Okay L ι 0 zz (.map es) w.heap[c]? := by have := s.ok r c 0 zz hι; rw [hes] at this; exact this
          have hfind := hre.find n 0
          have hlive : H.get r ≠ .dead := by rw [hes]; intro h; cases h
          split at hfind
          · rename_i v0 hv0
            obtain ⟨j, x0, e, f1, f2, f3, f4, f5⟩ := hfind
            rw [Nat.zero_add] at f1
            obtain ⟨s2, x2⟩ := s.setObj (o' := .map (mput es n x)) (x := .map (es'.modify j fun e => { e with key := .int .i64 n, val := a.eval v' }) (es'.modify j fun e => { e with key := .int .i64 n, val := a.eval v' }).size) hι hlive (ro_map hes) (fun l h => by cases h)
              ⟨_, rfl, by rw [Array.toList_modify]; exact f5 x _ r3, fun i e he => by
                rw [Array.getElem?_modify] at he
                split at he
                · rename_i hji
                  obtain ⟨e0, k1, k2⟩ := Option.map_eq_some_iff.1 he
                  rw [← k2]; exact hborn i e0 k1
                · exact hborn i e he⟩
            refine ⟨.un, undef, _, _, ι, .inr ⟨?_, rfl⟩, s2, x2, trivial, h⟩
            have hj : es'[j]? = some e := by rw [← Array.getElem?_toList]; exact f3
            simp only [execOp, e1, e2, Instr.mapUpdate, Sem.run_bind, run_underlying hm, Result.andThen, MapKept.run_getObj_map hx, MapKept.run_checkKey (d := .int .i64) (k := .int .i64 n) hkt rfl, MapKept.run_findKey hkt f1, hj, Option.map_some, Option.getD_some, f4, MapKept.run_keyThatStays (d := .int .i64) (k := .int .i64 n) rfl, MapKept.run_setObj_map _ hx, Sem.run_pure, setO, Array.size_modify]
          · rename_i hv0
            obtain ⟨f1, f5⟩ := hfind
            obtain ⟨s2, x2⟩ := s.setObj (o' := .map (mput es n x)) (x := .map (es'.push { key := .int .i64 n, val := a.eval v', born := es'.size }) (es'.push { key := .int .i64 n, val := a.eval v', born := es'.size }).size) hι hlive (ro_map hes) (fun l h => by cases h)
              ⟨_, rfl, by rw [Array.toList_push]; exact f5 x _ _ r3, fun i e he => by
                rw [Array.getElem?_push] at he
                split at he
                · rename_i hi; cases he; exact hi.symm
                · exact hborn i e he⟩
            refine ⟨.un, undef, _, _, ι, .inr ⟨?_, rfl⟩, s2, x2, trivial, h⟩
            simp only [execOp, e1, e2, Instr.mapUpdate, Sem.run_bind, run_underlying hm, Result.andThen, MapKept.run_getObj_map hx, MapKept.run_checkKey (d := .int .i64) (k := .int .i64 n) hkt rfl, MapKept.run_findKey hkt f1, MapKept.run_setObj_map _ hx, Sem.run_pure, setO, Array.size_push]
        · rename_i es hes
          obtain ⟨es', ck, hx, hre⟩ : Okay L ι 0 zz (.dmap es) w.heap[c]? := by have := s.ok r c 0 zz hι; rw [hes] at this; exact this
          have hfind := hre.find n 0
          have hlive : H.get r ≠ .dead := by rw [hes]; intro h; cases h
          split at hfind
          · rename_i v0 hv0
            obtain ⟨j, x0, e, f1, f2, f3, f4, f5⟩ := hfind
            rw [Nat.zero_add] at f1
            obtain ⟨s2, x2⟩ := s.setObj (o' := .dmap (mput es n x)) (x := .map (es'.modify j fun e => { e with key := .int .i64 n, val := a.eval v' }) ck) hι hlive (ro_dmap hes) (fun l h => by cases h)
              ⟨_, _, rfl, by rw [Array.toList_modify]; exact f5 x _ r3⟩
            refine ⟨.un, undef, _, _, ι, .inr ⟨?_, rfl⟩, s2, x2, trivial, h⟩
            have hj : es'[j]? = some e := by rw [← Array.getElem?_toList]; exact f3
            simp only [execOp, e1, e2, Instr.mapUpdate, Sem.run_bind, run_underlying hm, Result.andThen, MapKept.run_getObj_map hx, MapKept.run_checkKey (d := .int .i64) (k := .int .i64 n) hkt rfl, MapKept.run_findKey hkt f1, hj, Option.map_some, Option.getD_some, f4, MapKept.run_keyThatStays (d := .int .i64) (k := .int .i64 n) rfl, MapKept.run_setObj_map _ hx, Sem.run_pure, setO, Array.size_modify]
          · rename_i hv0
            obtain ⟨f1, f5⟩ := hfind
            obtain ⟨s2, x2⟩ := s.setObj (o' := .dmap (mput es n x)) (x := .map (es'.push { key := .int .i64 n, val := a.eval v', born := ck }) (ck + 1)) hι hlive (ro_dmap hes) (fun l h => by cases h)
              ⟨_, _, rfl, by rw [Array.toList_push]; exact f5 x _ _ r3⟩
            refine ⟨.un, undef, _, _, ι, .inr ⟨?_, rfl⟩, s2, x2, trivial, h⟩
            simp only [execOp, e1, e2, Instr.mapUpdate, Sem.run_bind, run_underlying hm, Result.andThen, MapKept.run_getObj_map hx, MapKept.run_checkKey (d := .int .i64) (k := .int .i64 n) hkt rfl, MapKept.run_findKey hkt f1, MapKept.run_setObj_map _ hx, Sem.run_pure, setO, Array.size_push]
        · exact h.elim
      · exact h.elim
    · cases hc
  | del m k =>
    obtain ⟨od, oo, ty, pos, af, og⟩ := o
    simp only [ckM] at hc
    split at hc
    rotate_left
    · cases hc
    rename_i cl
    obtain ⟨cle, args, argTypes⟩ := cl
    unfold ckDel at hc
    dsimp only at hc
    split at hc
    rotate_left
    · cases hc
    rename_i m' k' t u ha ht
    have ea : args = #[m', k'] := by cases args; simp_all
    have et : argTypes = #[t, u] := by cases argTypes; simp_all
    subst ea et
    simp only [Bool.and_eq_true] at hc
    obtain ⟨⟨c1, c2⟩, c4⟩ := hc
    obtain ⟨kt, et, hm, hkt⟩ := ckMap_spec c4
    simp only [evM] at h
    split at h
    · rename_i r n g1 g2
      obtain ⟨c, zz, hι, e1⟩ := opd_rel hf c1 g1
      have e2 : _ = Value.int .i64 n := opd_rel hf c2 g2
      have run : ∀ {es' : Array MapEntry} {ck : Nat}, w.heap[c]? = some (.map es' ck) → ∀ {q : Option (Nat × Value)}, Instr.findNow (.int .i64) (.int .i64 n) es'.toList 0 = some q →
          Does P ⟨od, .call ⟨.builtin .delete, #[m', k'], #[t, u]⟩, ty, pos, af, og⟩ a w (.tuple #[]) (setO w c (.map (match q with | some (i, _) => es'.eraseIdxIfInBounds i | none => es') ck)) := fun hx q hq => by
        refine .inl ?_
        cases q <;> simp only [execOp, resolve, Sem.run_bind, Sem.run_pure, Result.andThen_ok, invoke, builtin, List.map_toArray, List.map_cons, List.map_nil, e1, e2] <;>
          simp [Builtin.delete_, run_underlying hm, MapKept.run_getObj_map hx, MapKept.run_checkKey (d := .int .i64) (k := .int .i64 n) hkt rfl, MapKept.run_findKey hkt hq, MapKept.run_setObj_map _ hx, Result.andThen, setO]
      split at h
      · rename_i es hes
        obtain ⟨es', hx, hre, hborn⟩ : Okay L ι 0 zz (.map es) w.heap[c]? := by have := s.ok r c 0 zz hι; rw [hes] at this; exact this
        have hfind := hre.fdel n 0
        have hlive : H.get r ≠ .dead := by rw [hes]; intro h; cases h
        split at h
        · rename_i v hv
          rw [hv] at hfind
          obtain ⟨j, x, f1, f2⟩ := hfind
          rw [Nat.zero_add] at f1
          obtain ⟨s2, x2⟩ := s.setObj (o' := .dmap (mdel es n)) (x := .map (es'.eraseIdxIfInBounds j) es'.size) hι hlive (ro_map hes) (fun l h => by cases h) ⟨_, _, rfl, by rw [Array.toList_eraseIdxIfInBounds]; exact f2⟩
          exact ⟨.un, _, _, _, ι, run hx f1, s2, x2, trivial, h⟩
        · rename_i hv
          rw [hv] at hfind
          obtain ⟨s2, x2⟩ := s.setObj (o' := .map es) (x := .map es' es'.size) hι hlive (ro_map hes) (fun l h => by cases h) ⟨_, rfl, hre, hborn⟩
          exact ⟨.un, _, _, _, ι, run hx hfind.1, s2, x2, trivial, h⟩
      · rename_i es hes
        obtain ⟨es', ck, hx, hre⟩ : Okay L ι 0 zz (.dmap es) w.heap[c]? := by have := s.ok r c 0 zz hι; rw [hes] at this; exact this
        have hfind := hre.fdel n 0
        have hlive : H.get r ≠ .dead := by rw [hes]; intro h; cases h
        split at hfind
        · obtain ⟨j, x, f1, f2⟩ := hfind
          rw [Nat.zero_add] at f1
          obtain ⟨s2, x2⟩ := s.setObj (o' := .dmap (mdel es n)) (x := .map (es'.eraseIdxIfInBounds j) ck) hι hlive (ro_dmap hes) (fun l h => by cases h) ⟨_, _, rfl, by rw [Array.toList_eraseIdxIfInBounds]; exact f2⟩
          exact ⟨.un, _, _, _, ι, run hx f1, s2, x2, trivial, h⟩
        · obtain ⟨s2, x2⟩ := s.setObj (o' := .dmap (mdel es n)) (x := .map es' ck) hι hlive (ro_dmap hes) (fun l h => by cases h) ⟨_, _, rfl, by rw [hfind.2]; exact hre⟩
          exact ⟨.un, _, _, _, ι, run hx hfind.1, s2, x2, trivial, h⟩
      · exact h.elim
    · exact h.elim
  | range m =>
    obtain ⟨od, oo, ty, pos, af, og⟩ := o
    simp only [ckM] at hc
    split at hc
    · rename_i t m'
      simp only [Bool.and_eq_true] at hc
      obtain ⟨c1, c4⟩ := hc
      obtain ⟨kt, et, hm, hkt⟩ := ckMap_spec c4
      simp only [evM] at h
      split at h
      · rename_i r g1
        obtain ⟨c, zz, hι, e1⟩ := opd_rel hf c1 g1
        split at h
        · rename_i es hes
          obtain ⟨es', hx, hre, hborn⟩ : Okay L ι 0 zz (.map es) w.heap[c]? := by have := s.ok r c 0 zz hι; rw [hes] at this; exact this
          have hlen : es.length = es'.size := by rw [hre.length, Array.length_toList]
          obtain ⟨s2, x2⟩ := s.freshO (o := .iter r es.length []) (x := .mapIter (some c) es'.size #[] es'.size) (fun ι' hle => ⟨rfl, c, zz, #[], by rw [hlen], hle _ _ hι, rfl⟩)
          refine ⟨.ptr (some (H.next, 0)), .pointer (some ⟨w.heap.size, 0, none⟩), _, _, _, .inl ?_, s2, x2, ⟨w.heap.size, 0, 1, by unfold Ab.upd; rw [if_pos rfl], rfl⟩, h⟩
          simp only [execOp, e1, Sem.run_bind, run_range_map _ _ _ _ _ _ _ hm hx, Result.andThen, Sem.run_pure]
          rfl
        · exact h.elim
      · exact h.elim
    · cases hc
  | next it =>
    obtain ⟨od, oo, ty, pos, af, og⟩ := o
    simp only [ckM] at hc
    split at hc
    · rename_i it' b
      simp only [Bool.and_eq_true, Bool.not_eq_true'] at hc
      obtain ⟨c1, rfl⟩ := hc
      simp only [evM] at h
      split at h
      · rename_i bi g1
        obtain ⟨ci, pi, zi, hι, e1⟩ := opd_rel hf c1 g1
        split at h
        · rename_i r since seen hit
          obtain ⟨rfl, c, zz, seen', hx, hιm, hseen⟩ : Okay L ι pi zi (.iter r since seen) w.heap[ci]? := by have := s.ok bi ci pi zi hι; rw [hit] at this; exact this
          split at h
          · rename_i es hes
            obtain ⟨hsn, hend, hgo⟩ := h
            obtain ⟨es', hxm, hre, hborn⟩ : Okay L ι 0 zz (.map es) w.heap[c]? := by have := s.ok r c 0 zz hιm; rw [hes] at this; exact this
            have hlen : es.length = es'.size := by rw [hre.length, Array.length_toList]
            have hold : ∀ x ∈ es'.toList, x.born < since := fun x hxx => by
              obtain ⟨i, hi⟩ := List.getElem?_of_mem hxx
              have h1 : es'[i]? = some x := by rw [← Array.getElem?_toList]; exact hi
              have h2 := (Array.getElem?_eq_some_iff.1 h1).1
              rw [hborn i x h1]; omega
            have hcon : ∀ b, seen'.contains b = true ↔ b ∈ seen := fun b => by rw [← hseen, Array.contains_iff_mem, Array.mem_toList_iff]
            have hlive : H.get bi ≠ .dead := by rw [hit]; intro h; cases h
            rcases run_next_at (P := P) w ty ci c since since seen' es' es'.size hx hxm hold (Nat.le_refl _) with ⟨h0, hrun⟩ | ⟨e, he, w1, hw1, hrun⟩
            · refine ⟨.tup [.bool false], .tuple #[.bool false], H, w, ι, .inl ?_, s, Ext.refl _ _ _, ⟨_, rfl, _, _, rfl, rfl, rfl⟩, hend fun i hi => ?_⟩
              · simp only [execOp, e1, Nat.add_zero, Sem.run_bind, hrun, Result.andThen, Sem.run_pure]
              · rcases Classical.em (i ∈ seen) with hs | hs
                · exact hs
                · exfalso
                  have hi' : i < es'.size := by omega
                  have : es'[i] ∈ (leftOf es' seen').toList := by
                    rw [Array.mem_toList_iff]
                    refine Array.mem_filter.2 ⟨Array.getElem_mem hi', ?_⟩
                    rw [hborn i _ (Array.getElem?_eq_getElem hi')]
                    cases hcc : seen'.contains i with
                    | false => rfl
                    | true => exact absurd ((hcon i).1 hcc) hs
                  have h2 := Array.eq_empty_of_size_eq_zero h0
                  rw [h2] at this; simp at this
            · obtain ⟨hm1, hm2⟩ := mem_left he
              obtain ⟨i, hi⟩ := List.getElem?_of_mem hm1
              have h1 : es'[i]? = some e := by rw [← Array.getElem?_toList]; exact hi
              have hb := hborn i e h1
              obtain ⟨k, v, k1, k2, k3⟩ := hre.get hi
              have hns : i ∉ seen := fun hh => by
                have := (hcon i).2 hh
                rw [hb] at hm2; rw [hm2] at this; cases this
              have s1 : Sim L ι H w1 := by rcases hw1 with rfl | rfl; exact s; exact drew_sim s
              have x1 : Ext ι H w ι H w1 := by rcases hw1 with rfl | rfl; exact Ext.refl _ _ _; exact drew_ext
              obtain ⟨s2, x2⟩ := s1.setObj (o' := .iter r since (seen ++ [i])) (x := .mapIter (some c) since (seen'.push e.born) es'.size) hι hlive (ro_iter hit) (fun l h => by cases h)
                ⟨rfl, c, zz, seen'.push e.born, by rw [← hlen, hsn], hιm, by rw [Array.toList_push, hseen, hb]⟩
              refine ⟨.tup [.bool true, .int .i64 k, v], .tuple #[.bool true, e.key, e.val], _, _, ι, .inl ?_, s2, x1.trans s s1 x2, ⟨_, rfl, _, _, rfl, rfl, _, _, rfl, k2, _, _, rfl, k3, rfl⟩, hgo i (k, v) k1 hns⟩
              simp only [execOp, e1, Nat.add_zero, Sem.run_bind, hrun, Result.andThen, Sem.run_pure]
              rfl
          · exact h.elim
        · exact h.elim
      · exact h.elim
    · cases hc
  | entry it =>
    obtain ⟨od, oo, ty, pos, af, og⟩ := o
    simp only [ckM] at hc
    split at hc
    · rename_i it'
      simp only [evM] at h
      split at h
      · rename_i bi g1
        obtain ⟨ci, pi, zi, hι, e1⟩ := opd_rel hf hc g1
        split at h
        · rename_i r since seen hit
          obtain ⟨rfl, c, zz, seen', hx, hιm, hseen⟩ : Okay L ι pi zi (.iter r since seen) w.heap[ci]? := by have := s.ok bi ci pi zi hι; rw [hit] at this; exact this
          split at h
          · rename_i es i hes hlast
            obtain ⟨es', hxm, hre, hborn⟩ : Okay L ι 0 zz (.map es) w.heap[c]? := by have := s.ok r c 0 zz hιm; rw [hes] at this; exact this
            have hlen : es.length = es'.size := by rw [hre.length, Array.length_toList]
            split at h
            · rename_i kv hkv
              obtain ⟨hsn, hk⟩ := h
              have hi' : i < es'.size := by have := (List.getElem?_eq_some_iff.1 hkv).1; omega
              have h1 : es'[i]? = some es'[i] := Array.getElem?_eq_getElem hi'
              have hb := hborn i _ h1
              obtain ⟨k, v, k1, k2, k3⟩ := hre.get (i := i) (e := es'[i]) (by rw [Array.getElem?_toList]; exact h1)
              rw [hkv] at k1; cases k1
              obtain ⟨pre, hpre⟩ : ∃ pre, seen = pre ++ [i] := List.getLast?_eq_some_iff.1 hlast
              have hse : seen' = pre.toArray.push es'[i].born := by
                apply Array.toList_inj.1
                rw [hseen, hpre, Array.toList_push, hb]
              rw [hse] at hx
              have hrun := run_entry_at (P := P) w ci c since pre.toArray es' since es'[i] hx (by rw [hxm, ← hlen, hsn]) (by simp) (born_of hborn)
              refine ⟨.tup [.int .i64 k, v], .tuple #[es'[i].key, es'[i].val], H, w, ι, .inl ?_, s, Ext.refl _ _ _, ⟨_, rfl, _, _, rfl, k2, _, _, rfl, k3, rfl⟩, hk⟩
              simp only [execOp, e1, Nat.add_zero, Sem.run_bind, hrun, Result.andThen, Sem.run_pure]
            · exact h.elim
          · exact h.elim
        · exact h.elim
      · exact h.elim
    · cases hc

end Go.Ab
