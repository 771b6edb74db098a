/- The writers and readers as things that lie apart. Conditions: none. -/
import Derived.Test.YtnpdnkmnnmmagaaK4
import Derived.Test.YtnpdnkmnnmmagaaBq
set_option linter.all false
namespace Go.Ab

def WrA (w : Nat) (l : List Bool) (most : Nat) : As where
  ok F H := ∃ v, (∀ b, F b ↔ wf w v b) ∧ Wr H w v l most
  st := fun {F H H'} ⟨v, h1, h2⟩ hn he => ⟨v, h1, h2.same (S := fun b => ¬ F b) ⟨hn, fun b _ hs => he b (Classical.not_not.1 hs)⟩ fun b hb h => h ((h1 b).2 hb)⟩
  lt := fun ⟨v, h1, h2⟩ b hb => by rcases (h1 b).1 hb with h | h; exact h ▸ h2.lt; exact h2.bytes.lt h
def RWA (w : Nat) (l : List Bool) (most : Nat) : As where
  ok F H := ∃ v, (∀ b, F b ↔ wf w v b) ∧ RW H w v l most
  st := fun {F H H'} ⟨v, h1, h2⟩ hn he => ⟨v, h1, h2.same (S := fun b => ¬ F b) ⟨hn, fun b _ hs => he b (Classical.not_not.1 hs)⟩ fun b hb h => h ((h1 b).2 hb)⟩
  lt := fun ⟨v, h1, h2⟩ b hb => by rcases (h1 b).1 hb with h | h; exact h ▸ h2.lt; exact h2.list.lt h
def RdA (r : Nat) (bs : List Nat) (a : Nat) : As where
  ok F H := ∃ v, (∀ b, F b ↔ wf r v b) ∧ Rd H r v bs a
  st := fun {F H H'} ⟨v, h1, h2⟩ hn he => ⟨v, h1, h2.same (S := fun b => ¬ F b) ⟨hn, fun b _ hs => he b (Classical.not_not.1 hs)⟩ fun b hb h => h ((h1 b).2 hb)⟩
  lt := fun ⟨v, h1, h2⟩ b hb => by rcases (h1 b).1 hb with h | h; exact h ▸ h2.lt; exact h2.bytes.lt h
/-- The reference's reader over a list that stands elsewhere. -/
def RRA (r : Nat) (y : V) (a : Nat) : As where
  ok F H := (∀ b, F b ↔ b = r) ∧ H.get r = .cells [y, .int .i64 a] true ∧ r < H.next
  st := fun ⟨h1, h2, h3⟩ hn he => ⟨h1, (he r ((h1 r).2 rfl)).trans h2, Nat.lt_of_lt_of_le h3 hn⟩
  lt := fun ⟨h1, _, h3⟩ b hb => by have := (h1 b).1 hb; omega

section
variable {P : Prog} {H : Heap} {R : List As} {Q : Out → Heap → Prop}

theorem newWriterA (hp : HasBits P) {m : Int} (h : Hs H R) (hm : -9223372036854775808 ≤ m ∧ m ≤ 9223372036854775807)
    (h1 : m < 0 ∨ 67108864 < m → Q (.ret (.tup [.ptr none, .int .i64 10])) H)
    (h2 : 0 ≤ m → m ≤ 67108864 → ∀ w H', Hs H' (WrA w [] m.toNat :: R) → Q (.ret (.tup [.ptr (some (w, 0)), .int .i64 0])) H') : Call P 4 [.int .i64 m] H Q :=
  newWriter hp hm h1 fun a b H' w s => h2 a b _ H' (h.new s ⟨_, ⟨_, fun _ => Iff.rfl, w⟩, fun b hb => hb.elim (fun e => by omega) False.elim⟩)
theorem wPutA (hp : HasBits P) {w n most : Nat} {l : List Bool} {k : Int} (h : Hs H (WrA w l most :: R)) (hn : n < 18446744073709551616) (hk : -9223372036854775808 ≤ k ∧ k ≤ 9223372036854775807)
    (hQ : ∀ H', Hs H' (WrA w (wPut l most n k).2 most :: R) → Q (.ret (.int .i64 (wPut l most n k).1)) H') : Call P 5 [.ptr (some (w, 0)), .int .u64 n, .int .i64 k] H Q := by
  obtain ⟨F, v, h1, h2⟩ := h.head
  exact wPut_ct hp h2 hn hk fun v' H' a b c => hQ H' (h.step fun F ⟨v2, k1, k2⟩ => by
    have e : v2 = v := by have := k2.cell; rw [h2.cell] at this; cases this; rfl
    subst e
    exact ⟨_, wf w v', b, fun x _ hx => (k1 x).2 hx, ⟨v', fun _ => Iff.rfl, a⟩, fun x hx => hx.elim (fun e => Or.inl ((k1 x).2 (Or.inl e))) fun hx => (c x hx).imp_left fun hx => (k1 x).2 (Or.inr hx)⟩)
theorem wVarA (hp : HasBits P) {w n most : Nat} {l : List Bool} (h : Hs H (WrA w l most :: R)) (hn : n < 18446744073709551616)
    (hQ : ∀ H', Hs H' (WrA w (wVar l most n).2 most :: R) → Q (.ret (.int .i64 (wVar l most n).1)) H') : Call P 6 [.ptr (some (w, 0)), .int .u64 n] H Q := by
  obtain ⟨F, v, h1, h2⟩ := h.head
  exact wVar_ct hp h2 hn fun v' H' a b c => hQ H' (h.step fun F ⟨v2, k1, k2⟩ => by
    have e : v2 = v := by have := k2.cell; rw [h2.cell] at this; cases this; rfl
    subst e
    exact ⟨_, wf w v', b, fun x _ hx => (k1 x).2 hx, ⟨v', fun _ => Iff.rfl, a⟩, fun x hx => hx.elim (fun e => Or.inl ((k1 x).2 (Or.inl e))) fun hx => (c x hx).imp_left fun hx => (k1 x).2 (Or.inr hx)⟩)
theorem wAlignA (hp : HasBits P) {w most : Nat} {l : List Bool} (h : Hs H (WrA w l most :: R))
    (hQ : ∀ H', Hs H' (WrA w (wAlign l) most :: R) → Q (.ret (.tup [])) H') : Call P 7 [.ptr (some (w, 0))] H Q := by
  obtain ⟨F, v, h1, h2⟩ := h.head
  exact wAlign_ct hp h2 fun H' a b => hQ H' (h.step fun F ⟨v2, k1, k2⟩ => by
    have e : v2 = v := by have := k2.cell; rw [h2.cell] at this; cases this; rfl
    subst e
    exact ⟨_, wf w v2, b, fun x _ hx => (k1 x).2 hx, ⟨v2, fun _ => Iff.rfl, a⟩, fun x hx => Or.inl ((k1 x).2 hx)⟩)
theorem wLenA (hp : HasBits P) {w most : Nat} {l : List Bool} (h : Hs H (WrA w l most :: R)) (hQ : Q (.ret (.int .i64 l.length)) H) : Call P 8 [.ptr (some (w, 0))] H Q := by
  obtain ⟨F, v, h1, h2⟩ := h.head
  exact wLen hp h2 hQ
theorem wBytesA (hp : HasBits P) {w most : Nat} {l : List Bool} (h : Hs H (WrA w l most :: R))
    (hQ : ∀ v' H', Hs H' (Lst v' 1 (pack l).length (u8s (pack l)) :: WrA w l most :: R) → Q (.ret v') H') : Call P 9 [.ptr (some (w, 0))] H Q := by
  obtain ⟨F, v, h1, h2⟩ := h.head
  exact wBytes hp h2 fun v' H' a b c => hQ v' H' (h.lst b a c)
theorem wRoom {w most : Nat} {l : List Bool} (h : Hs H (WrA w l most :: R)) : l.length ≤ 8 * most ∧ most ≤ 67108864 := by
  obtain ⟨F, v, h1, h2⟩ := h.head
  exact ⟨h2.room, h2.max⟩

theorem rwPutA (hp : HasRefBits P) {w n most : Nat} {l : List Bool} {k : Int} (h : Hs H (RWA w l most :: R)) (hn : n < 18446744073709551616) (hk : -9223372036854775808 ≤ k ∧ k ≤ 9223372036854775807)
    (hQ : ∀ H', Hs H' (RWA w (wPut l most n k).2 most :: R) → Q (.ret (.int .i64 (wPut l most n k).1)) H') : Call P 17 [.ptr (some (w, 0)), .int .u64 n, .int .i64 k] H Q := by
  obtain ⟨F, v, h1, h2⟩ := h.head
  exact rwPut_ct hp h2 hn hk fun v' H' a b c => hQ H' (h.step fun F ⟨v2, k1, k2⟩ => by
    have e : v2 = v := by have := k2.cell; rw [h2.cell] at this; cases this; rfl
    subst e
    exact ⟨_, wf w v', b, fun x _ hx => (k1 x).2 hx, ⟨v', fun _ => Iff.rfl, a⟩, fun x hx => hx.elim (fun e => Or.inl ((k1 x).2 (Or.inl e))) fun hx => (c x hx).imp_left fun hx => (k1 x).2 (Or.inr hx)⟩)
theorem rwVarA (hp : HasRefBits P) {w n most : Nat} {l : List Bool} (h : Hs H (RWA w l most :: R)) (hn : n < 18446744073709551616)
    (hQ : ∀ H', Hs H' (RWA w (wVar l most n).2 most :: R) → Q (.ret (.int .i64 (wVar l most n).1)) H') : Call P 19 [.ptr (some (w, 0)), .int .u64 n] H Q := by
  obtain ⟨F, v, h1, h2⟩ := h.head
  exact rwVar_ct hp h2 hn fun v' H' a b c => hQ H' (h.step fun F ⟨v2, k1, k2⟩ => by
    have e : v2 = v := by have := k2.cell; rw [h2.cell] at this; cases this; rfl
    subst e
    exact ⟨_, wf w v', b, fun x _ hx => (k1 x).2 hx, ⟨v', fun _ => Iff.rfl, a⟩, fun x hx => hx.elim (fun e => Or.inl ((k1 x).2 (Or.inl e))) fun hx => (c x hx).imp_left fun hx => (k1 x).2 (Or.inr hx)⟩)
theorem rwAlignA (hp : HasRefBits P) {w most : Nat} {l : List Bool} (h : Hs H (RWA w l most :: R))
    (hQ : ∀ H', Hs H' (RWA w (wAlign l) most :: R) → Q (.ret (.tup [])) H') : Call P 20 [.ptr (some (w, 0))] H Q := by
  obtain ⟨F, v, h1, h2⟩ := h.head
  exact rwAlign_ct hp h2 fun v' H' a b c => hQ H' (h.step fun F ⟨v2, k1, k2⟩ => by
    have e : v2 = v := by have := k2.cell; rw [h2.cell] at this; cases this; rfl
    subst e
    exact ⟨_, wf w v', b, fun x _ hx => (k1 x).2 hx, ⟨v', fun _ => Iff.rfl, a⟩, fun x hx => hx.elim (fun e => Or.inl ((k1 x).2 (Or.inl e))) fun hx => (c x hx).imp_left fun hx => (k1 x).2 (Or.inr hx)⟩)
theorem rwBytesA (hp : HasRefBits P) {w most : Nat} {l : List Bool} (h : Hs H (RWA w l most :: R))
    (hQ : ∀ v' H', Hs H' (Lst v' 1 (pack l).length (u8s (pack l)) :: RWA w l most :: R) → Q (.ret v') H') : Call P 21 [.ptr (some (w, 0))] H Q := by
  obtain ⟨F, v, h1, h2⟩ := h.head
  exact rwBytes_ct hp h2 fun v' H' a b c => hQ v' H' (h.lst b a c)
/-- What is read of the reference's writer. -/
theorem rwCell {w most : Nat} {l : List Bool} (h : Hs H (RWA w l most :: R)) : ∃ a c e, H.get w = .cells [.int .i64 most, .sl a l.length c e] true := by
  obtain ⟨F, v, h1, h2⟩ := h.head
  obtain ⟨a, c, e, hv⟩ := h2.list.arr.shape
  exact ⟨a, c, e, by rw [h2.cell, hv]⟩

theorem newReaderA (hp : HasBits P) {y : V} {bs : List Nat} (h : Hs H R) (hy : Arr H y 1 bs.length (u8s bs)) (hs : ∀ b ∈ bs, b < 256) (hl : bs.length ≤ 140737488355328)
    (hQ : ∀ r H', Hs H' (RdA r bs 0 :: R) → Q (.ret (.ptr (some (r, 0)))) H') : Call P 10 [y] H Q :=
  newReader hp hy hs hl fun r v H' a b c d => hQ r H' (h.new b ⟨wf r v, ⟨v, fun _ => Iff.rfl, a⟩, fun x hx => hx.elim (fun e => e ▸ c) (d x)⟩)
theorem rLeftA (hp : HasBits P) {r a : Nat} {bs : List Nat} (h : Hs H (RdA r bs a :: R)) (hQ : Q (.ret (.int .i64 ((8 * bs.length - a : Nat) : Int))) H) : Call P 11 [.ptr (some (r, 0))] H Q := by
  obtain ⟨F, v, h1, h2⟩ := h.head
  exact rLeft hp h2 hQ
theorem rdStep {H' : Heap} {r a a' : Nat} {bs : List Nat} {v : V} (h : Hs H (RdA r bs a :: R)) (h2 : Rd H r v bs a) (k : Rd H' r v bs a') (s : Same (fun b => b = r) H H') : Hs H' (RdA r bs a' :: R) :=
  h.step fun F ⟨v2, k1, k2⟩ => by
    have e : v2 = v := by have := k2.cell; rw [h2.cell] at this; cases this; rfl
    subst e
    exact ⟨_, F, s, fun x _ hx => (k1 x).2 (Or.inl hx), ⟨v2, k1, k⟩, fun _ hx => Or.inl hx⟩
theorem rTakeA (hp : HasBits P) {r a : Nat} {bs : List Nat} {k : Int} (h : Hs H (RdA r bs a :: R))
    (hQ : ∀ H', Hs H' (RdA r bs (rTake bs a k).2.2 :: R) → Q (.ret (.tup [.int .u64 ((rTake bs a k).1 : Nat), .int .i64 (rTake bs a k).2.1])) H') : Call P 12 [.ptr (some (r, 0)), .int .i64 k] H Q := by
  obtain ⟨F, v, h1, h2⟩ := h.head
  exact rTake_ct hp h2 fun H' a b => hQ H' (rdStep h h2 a b)
theorem rVarA (hp : HasBits P) {r a : Nat} {bs : List Nat} (h : Hs H (RdA r bs a :: R))
    (hQ : ∀ H', Hs H' (RdA r bs (rVar bs a).2.2 :: R) → Q (.ret (.tup [.int .u64 ((rVar bs a).1 : Nat), .int .i64 (rVar bs a).2.1])) H') : Call P 15 [.ptr (some (r, 0))] H Q := by
  obtain ⟨F, v, h1, h2⟩ := h.head
  exact rVar_ct hp h2 fun H' a b => hQ H' (rdStep h h2 a b)
theorem rAlignA (hp : HasBits P) {r a : Nat} {bs : List Nat} (h : Hs H (RdA r bs a :: R))
    (hQ : ∀ H', Hs H' (RdA r bs (rAlign bs a).2 :: R) → Q (.ret (.int .i64 (rAlign bs a).1)) H') : Call P 16 [.ptr (some (r, 0))] H Q := by
  obtain ⟨F, v, h1, h2⟩ := h.head
  exact rAlign_ct hp h2 fun H' a b => hQ H' (rdStep h h2 a b)
theorem rRoom {r a : Nat} {bs : List Nat} (h : Hs H (RdA r bs a :: R)) : a ≤ 8 * bs.length ∧ bs.length ≤ 140737488355328 := by
  obtain ⟨F, v, h1, h2⟩ := h.head
  exact ⟨h2.room, h2.max⟩

theorem eqA (hp : HasKit P) {x y : V} {bs cs : List Nat} (hx : Arr H x 1 bs.length (u8s bs)) (hy : Arr H y 1 cs.length (u8s cs)) (hl : bs.length ≤ 281474976710656) (hQ : Q (.ret (.bool (decide (bs = cs)))) H) : Call P 26 [x, y] H Q :=
  eq_ct hp.h_burinref0_Eq hx hy hl hQ
theorem copyA (hp : HasKit P) {x : V} {bs : List Nat} (h : Hs H R) (hx : Arr H x 1 bs.length (u8s bs)) (hl : bs.length ≤ 281474976710656)
    (hQ : ∀ v H', Hs H' (Lst v 1 bs.length (u8s bs) :: R) → Q (.ret v) H') : Call P 27 [x] H Q :=
  copy_ct hp.h_burinref0_Copy hx hl fun v H' a b c => hQ v H' (h.lst b a c)
theorem overA (hp : HasKit P) {x : V} {bs : List Nat} (h : Hs H (Lst x 1 bs.length (u8s bs) :: R)) (hl : bs.length ≤ 1099511627776) (hQ : ∀ H', Hs H' R → Q (.ret (.tup [])) H') : Call P 28 [x] H Q :=
  over_ct hp.h_burinkit_Over h.own hl fun H' s => hQ H' (Hs.tail (A := Lst (.sl none 0 0 0) 1 0 []) (h.step fun F ⟨h1, _⟩ => ⟨_, fun _ => False, s, fun x _ hx => (h1 x).2 hx, ⟨fun x => ⟨False.elim, False.elim⟩, own_nil _ _⟩, fun _ hx => hx.elim⟩))
theorem wakesA (hp : HasL1 P) (h : Hs H R) (hQ : ∀ H', Hs H' R → Q (.ret (.bool true)) H') : Call P 32 [] H Q := wakes hp fun H' s => hQ H' (h.keep s)
end
end Go.Ab
