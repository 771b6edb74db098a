/- Counts of turned and inverted pixels. No program. -/
import Derived.Test.YtdkgdneiilnppaaCu
set_option linter.all false
namespace Go.Ab

theorem cntF_sum (f : Nat → Bool) : ∀ n, cntF f n = sumN (fun i => (f i).toNat) n
  | 0 => rfl
  | n + 1 => by rw [cntF, sumN, cntF_sum f n]
theorem sumN_zero : ∀ n, sumN (fun _ => 0) n = 0
  | 0 => rfl
  | n + 1 => by rw [sumN, sumN_zero n]
theorem sumN_plus (f g : Nat → Nat) : ∀ n, sumN (fun i => f i + g i) n = sumN f n + sumN g n
  | 0 => rfl
  | n + 1 => by rw [sumN, sumN, sumN, sumN_plus f g n]; omega
theorem sumN_swap (f : Nat → Nat → Nat) (m : Nat) : ∀ n, sumN (fun j => sumN (fun i => f i j) m) n = sumN (fun i => sumN (fun j => f i j) n) m
  | 0 => by simp only [sumN]; exact (sumN_zero m).symm
  | n + 1 => by
    rw [sumN, sumN_swap f m n, ← sumN_plus]; rfl
theorem cnt2_sum (w : Nat) (p : Nat → Nat → Bool) (h : Nat) : cnt2 w p h = sumN (fun j => sumN (fun i => (p i j).toNat) w) h := sumN_congr fun j _ => cntF_sum _ _
theorem cnt2_turn (w h : Nat) (p : Nat → Nat → Bool) : cnt2 h (fun i j => p j (h - 1 - i)) w = cnt2 w p h := by
  have e : cnt2 h (fun i j => p j (h - 1 - i)) w = sumN (fun j => cntF (fun i => p j i) h) w := sumN_congr fun j _ => cntF_rev (fun i => p j i) h
  rw [e, sumN_congr (g := fun j => sumN (fun i => (p j i).toNat) h) fun j _ => cntF_sum _ _, cnt2_sum, sumN_swap (fun i j => (p i j).toNat) w h]
theorem cntF_not (f : Nat → Bool) : ∀ n, cntF (fun i => !f i) n + cntF f n = n
  | 0 => rfl
  | n + 1 => by
    have := cntF_not f n
    simp only [cntF]
    cases f n <;> simp <;> omega
theorem cnt2_not (w : Nat) (p : Nat → Nat → Bool) : ∀ h, cnt2 w (fun i j => !p i j) h + cnt2 w p h = h * w
  | 0 => by simp [cnt2, sumN]
  | h + 1 => by
    have h1 := cnt2_not w p h
    have h2 := cntF_not (fun x => p x h) w
    have e1 : cnt2 w (fun i j => !p i j) (h + 1) = cnt2 w (fun i j => !p i j) h + cntF (fun x => !p x h) w := rfl
    have e2 : cnt2 w p (h + 1) = cnt2 w p h + cntF (fun x => p x h) w := rfl
    rw [e1, e2, Nat.add_mul, Nat.one_mul]; omega
theorem mayB_Wds {w h : Nat} {p : Nat → Nat → Bool} (h1 : 1 ≤ w) (h2 : 1 ≤ h) (h3 : w * h ≤ 1048576) : mayB w h (Wds w h p) :=
  ⟨⟨by omega, by omega, by rw [← Int.natCast_mul]; omega⟩, by simp [Wds_length], by simpa using Wds_pad p h1⟩
end Go.Ab
