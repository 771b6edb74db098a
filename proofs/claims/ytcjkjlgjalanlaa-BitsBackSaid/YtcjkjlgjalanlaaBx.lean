/- The reference's reader as a thing that lies apart. Conditions: none. -/
import Derived.Test.YtcjkjlgjalanlaaBv
import Derived.Test.YtcjkjlgjalanlaaBw
set_option linter.all false
namespace Go.Ab

def RQA (r : Nat) (y : V) (a : Nat) : As where
  ok F H := (∀ b, F b ↔ b = r) ∧ H.get r = .cells [y, .int .i64 a] true ∧ r < H.next ∧ ¬ sb y r
  st := fun ⟨h1, h2, h3, h4⟩ hn he => ⟨h1, (he r ((h1 r).2 rfl)).trans h2, Nat.lt_of_lt_of_le h3 hn, h4⟩
  lt := fun ⟨h1, _, h3, _⟩ b hb => by have := (h1 b).1 hb; omega

section
variable {P : Prog} {H : Heap} {R : List As} {Q : Out → Heap → Prop} {r a : Nat} {y : V} {bs : List Nat}
/-- The list that the reference reads. -/
structure Read1 (H : Heap) (y : V) (bs : List Nat) (a : Nat) : Prop where
  arr : Arr H y 1 bs.length (u8s bs)
  small : ∀ b ∈ bs, b < 256
  room : a ≤ 8 * bs.length
  max : bs.length ≤ 140737488355328
theorem rrOf (h : Hs H (RQA r y a :: R)) (k : Read1 H y bs a) : RR H r y bs a := by
  obtain ⟨F, h1, h2, h3, h4⟩ := h.head
  exact ⟨h2, k.arr, h3, h4, k.small, k.room, k.max⟩
theorem rrStep {H' : Heap} {a' : Nat} (h : Hs H (RQA r y a :: R)) (k : RR H' r y bs a') (s : Same (fun b => b = r) H H') : Hs H' (RQA r y a' :: R) :=
  h.step fun F ⟨h1, h2, h3, h4⟩ => ⟨_, F, s, fun x _ hx => (h1 x).2 hx, ⟨h1, k.cell, k.lt, h4⟩, fun _ hx => Or.inl hx⟩
theorem rrTakeA (hp : HasRefBits P) {k : Int} (h : Hs H (RQA r y a :: R)) (hy : Read1 H y bs a)
    (hQ : ∀ H', Hs H' (RQA r y (rTake bs a k).2.2 :: R) → Q (.ret (.tup [.int .u64 ((rTake bs a k).1 : Nat), .int .i64 (rTake bs a k).2.1])) H') : Call P 23 [.ptr (some (r, 0)), .int .i64 k] H Q :=
  rrTake_ct hp (rrOf h hy) fun H' a b => hQ H' (rrStep h a b)
theorem rrVarA (hp : HasRefBits P) (h : Hs H (RQA r y a :: R)) (hy : Read1 H y bs a)
    (hQ : ∀ H', Hs H' (RQA r y (rVar bs a).2.2 :: R) → Q (.ret (.tup [.int .u64 ((rVar bs a).1 : Nat), .int .i64 (rVar bs a).2.1])) H') : Call P 24 [.ptr (some (r, 0))] H Q :=
  rrVar_ct hp (rrOf h hy) fun H' a b => hQ H' (rrStep h a b)
theorem rrAlignA (hp : HasRefBits P) (h : Hs H (RQA r y a :: R)) (hy : Read1 H y bs a)
    (hQ : ∀ H', Hs H' (RQA r y (rAlign bs a).2 :: R) → Q (.ret (.int .i64 (rAlign bs a).1)) H') : Call P 25 [.ptr (some (r, 0))] H Q :=
  rrAlign_ct hp (rrOf h hy) fun H' a b => hQ H' (rrStep h a b)
theorem rrLeftA (hp : HasRefBits P) (h : Hs H (RQA r y a :: R)) (hy : Read1 H y bs a) (hQ : Q (.ret (.int .i64 ((8 * bs.length - a : Nat) : Int))) H) : Call P 22 [.ptr (some (r, 0))] H Q :=
  rrLeft hp (rrOf h hy) hQ
end
end Go.Ab
