/- The order that Ieee's double gives two words is the order of their signed rungs. No conditions but those in each statement. -/
import GoSem.Core.Float
import Derived.Laws.FloatArith
namespace Go.Proofs.Ytajdmihbhpbofaa
open Ieee

/-- The magnitude's digits, the place above the least one, and both together: of a rung below infinity. -/
def mag (r : Nat) : Nat := if r < 4503599627370496 then r else 4503599627370496 + r % 4503599627370496
def up (r : Nat) : Nat := if r < 4503599627370496 then 0 else r / 4503599627370496 - 1
def val (r : Nat) : Nat := mag r * 2 ^ up r
/-- A word as a whole number with its sign: words are in the order of these. -/
def sv (x : Nat) : Int := if x / 9223372036854775808 % 2 = 1 then -((x % 9223372036854775808 : Nat) : Int) else (x % 9223372036854775808 : Nat)
def isN (x : Nat) : Bool := decide (9218868437227405312 < x % 9223372036854775808)

theorem val_succ (r : Nat) : val r < val (r + 1) := by
  unfold val mag up
  by_cases h : r + 1 < 4503599627370496
  · rw [if_pos h, if_pos h, if_pos (by omega), if_pos (by omega)]; omega
  · by_cases h' : r < 4503599627370496
    · obtain rfl : r = 4503599627370495 := by omega
      decide
    · rw [if_neg h, if_neg h, if_neg h', if_neg h']
      by_cases e : (r + 1) % 4503599627370496 = 0
      · have e1 : (r + 1) / 4503599627370496 - 1 = (r / 4503599627370496 - 1) + 1 := by omega
        have e2 : r % 4503599627370496 = 4503599627370495 := by omega
        rw [e, e1, e2, Nat.pow_succ]
        have := Nat.two_pow_pos (r / 4503599627370496 - 1)
        generalize 2 ^ (r / 4503599627370496 - 1) = k at this ⊢
        omega
      · have e1 : (r + 1) / 4503599627370496 = r / 4503599627370496 := by omega
        have e2 : (r + 1) % 4503599627370496 = r % 4503599627370496 + 1 := by omega
        rw [e1, e2]
        exact Nat.mul_lt_mul_of_pos_right (by omega) (Nat.two_pow_pos _)

theorem val_lt {r s : Nat} (h : r < s) : val r < val s := by
  induction s with
  | zero => omega
  | succ s ih =>
    rcases Nat.lt_or_eq_of_le (Nat.le_of_lt_succ h) with h' | h'
    · exact Nat.lt_trans (ih h') (val_succ s)
    · subst h'; exact val_succ _

theorem val_le {r s : Nat} (h : r ≤ s) : val r ≤ val s := by
  rcases Nat.lt_or_eq_of_le h with h | h
  · exact Nat.le_of_lt (val_lt h)
  · exact h ▸ Nat.le_refl _

theorem val_inj {r s : Nat} (h : val r = val s) : r = s := by
  rcases Nat.lt_trichotomy r s with h' | h' | h'
  · have := val_lt h'; omega
  · exact h'
  · have := val_lt h'; omega

theorem val_zero : val 0 = 0 := by decide

theorem read_nan (x : Nat) (h : 9218868437227405312 < x % 9223372036854775808) : Ieee.double.read x = .nan (x / 9223372036854775808 % 2 == 1) (x % 9223372036854775808 - 9218868437227405312) := by
  have e1 : Ieee.double.signWeight = 9223372036854775808 := by decide
  have e2 : Ieee.double.binade = 4503599627370496 := by decide
  have e3 : Ieee.double.infRung = 9218868437227405312 := by decide
  unfold Ieee.Format.read
  simp only [e1, e2, e3]
  rw [if_neg (by omega), if_neg (by omega), if_neg (by omega)]

theorem read_inf (x : Nat) (h : x % 9223372036854775808 = 9218868437227405312) : Ieee.double.read x = .infinity (x / 9223372036854775808 % 2 == 1) := by
  have e1 : Ieee.double.signWeight = 9223372036854775808 := by decide
  have e2 : Ieee.double.binade = 4503599627370496 := by decide
  have e3 : Ieee.double.infRung = 9218868437227405312 := by decide
  unfold Ieee.Format.read
  simp only [e1, e2, e3, h]
  rfl

theorem read_num (x : Nat) (h : x % 9223372036854775808 < 9218868437227405312) : Ieee.double.read x = .number (x / 9223372036854775808 % 2 == 1) (mag (x % 9223372036854775808)) (-1074 + up (x % 9223372036854775808)) := by
  have e1 : Ieee.double.signWeight = 9223372036854775808 := by decide
  have e2 : Ieee.double.binade = 4503599627370496 := by decide
  have e3 : Ieee.double.infRung = 9218868437227405312 := by decide
  have e4 : Ieee.double.leastPlace = -1074 := by decide
  unfold Ieee.Format.read mag up
  simp only [e1, e2, e3, e4]
  split
  · simp
  · first | rfl | (rw [if_pos h])

theorem shift_eq (r : Nat) (k : Nat) (h : k ≤ up r) : (mag r <<< (up r - k)) * 2 ^ k = val r := by
  unfold val
  rw [Nat.shiftLeft_eq, Nat.mul_assoc, ← Nat.pow_add, Nat.sub_add_cancel h]

theorem compare_int_mul (a b : Int) (k : Nat) : compare (a * (2 ^ k : Nat)) (b * (2 ^ k : Nat)) = compare a b := by
  have hk : (0 : Int) < (2 ^ k : Nat) := by exact_mod_cast Nat.two_pow_pos k
  simp only [compare, compareOfLessAndEq]
  have e1 : (a * (2 ^ k : Nat) < b * (2 ^ k : Nat)) ↔ a < b := ⟨fun h => Int.lt_of_mul_lt_mul_right h (Int.le_of_lt hk), fun h => Int.mul_lt_mul_of_pos_right h hk⟩
  have e2 : (a * (2 ^ k : Nat) = b * (2 ^ k : Nat)) ↔ a = b := ⟨fun h => Int.eq_of_mul_eq_mul_right (Int.ne_of_gt hk) h, fun h => by rw [h]⟩
  simp only [e1, e2]

theorem compare_congr (a b c d : Int) (h1 : a < b ↔ c < d) (h2 : a = b ↔ c = d) : compare a b = compare c d := by
  simp only [compare, compareOfLessAndEq, h1, h2]

/-- THE ORDER OF TWO WORDS THAT ARE NUMBERS: that of the whole numbers 'sv'. -/
theorem order_sv (x y : Nat) (hx : x % 9223372036854775808 ≤ 9218868437227405312) (hy : y % 9223372036854775808 ≤ 9218868437227405312) : Ieee.double.order x y = some (compare (sv x) (sv y)) := by
  unfold Ieee.Format.order sv
  rcases Nat.lt_or_eq_of_le hx with hx | hx <;> rcases Nat.lt_or_eq_of_le hy with hy | hy
  · rw [read_num x hx, read_num y hy]
    simp only [Ieee.Datum.order]
    congr 1
    generalize x % 9223372036854775808 = r at *
    generalize y % 9223372036854775808 = s at *
    have hm : min (-1074 + (up r : Int)) (-1074 + (up s : Int)) = -1074 + ((min (up r) (up s) : Nat) : Int) := by omega
    rw [hm]
    have k1 : ((-1074 + (up r : Int)) - (-1074 + ((min (up r) (up s) : Nat) : Int))).toNat = up r - min (up r) (up s) := by omega
    have k2 : ((-1074 + (up s : Int)) - (-1074 + ((min (up r) (up s) : Nat) : Int))).toNat = up s - min (up r) (up s) := by omega
    rw [k1, k2]
    rw [← compare_int_mul _ _ (min (up r) (up s))]
    have m1 : ∀ b : Bool, Ieee.signed b (mag r) (up r - min (up r) (up s)) * ((2 ^ min (up r) (up s) : Nat) : Int) = if b then -(val r : Int) else val r := by
      intro b
      have := shift_eq r (min (up r) (up s)) (Nat.min_le_left _ _)
      unfold Ieee.signed
      cases b
      · simp only [Bool.false_eq_true, if_false]; exact_mod_cast this
      · simp only [if_true]; rw [Int.neg_mul]; exact congrArg Neg.neg (by exact_mod_cast this)
    have m2 : ∀ b : Bool, Ieee.signed b (mag s) (up s - min (up r) (up s)) * ((2 ^ min (up r) (up s) : Nat) : Int) = if b then -(val s : Int) else val s := by
      intro b
      have := shift_eq s (min (up r) (up s)) (Nat.min_le_right _ _)
      unfold Ieee.signed
      cases b
      · simp only [Bool.false_eq_true, if_false]; exact_mod_cast this
      · simp only [if_true]; rw [Int.neg_mul]; exact congrArg Neg.neg (by exact_mod_cast this)
    rw [m1, m2]
    have z := val_zero
    have l1 : ∀ a b : Nat, val a < val b ↔ a < b := fun a b => ⟨fun h => by
      rcases Nat.lt_or_ge a b with h' | h'
      · exact h'
      · have := val_le h'; omega, val_lt⟩
    have l2 : ∀ a b : Nat, val a = val b ↔ a = b := fun a b => ⟨val_inj, fun h => by rw [h]⟩
    have a1 := l1 r s; have a2 := l1 s r; have a3 := l2 r s
    have b1 := l1 0 r; have b2 := l1 0 s
    rw [z] at b1 b2
    simp only [beq_iff_eq]
    split <;> split <;> refine compare_congr _ _ _ _ ?_ ?_ <;> omega
  · rw [read_num x hx, read_inf y hy]
    simp only [Ieee.Datum.order, compare, compareOfLessAndEq, beq_iff_eq]
    congr 1
    split <;> split <;> (first | (rw [if_pos (by omega)]) | (rw [if_neg (by omega), if_neg (by omega)]))
  · rw [read_inf x hx, read_num y hy]
    simp only [Ieee.Datum.order, compare, compareOfLessAndEq, beq_iff_eq]
    congr 1
    split <;> split <;> (first | (rw [if_pos (by omega)]) | (rw [if_neg (by omega), if_neg (by omega)]))
  · rw [read_inf x hx, read_inf y hy]
    simp only [Ieee.Datum.order]
    congr 1
    rw [hx, hy]
    by_cases h1 : x / 9223372036854775808 % 2 = 1 <;> by_cases h2 : y / 9223372036854775808 % 2 = 1
    · rw [h1, h2]; decide
    · have b2 : (y / 9223372036854775808 % 2 == 1) = false := by simpa using h2
      rw [h1, b2, if_neg h2]; decide
    · have b1 : (x / 9223372036854775808 % 2 == 1) = false := by simpa using h1
      rw [h2, b1, if_neg h1]; decide
    · have b1 : (x / 9223372036854775808 % 2 == 1) = false := by simpa using h1
      have b2 : (y / 9223372036854775808 % 2 == 1) = false := by simpa using h2
      rw [b1, b2, if_neg h1, if_neg h2]; decide

theorem order_nan_left (x y : Nat) (hx : 9218868437227405312 < x % 9223372036854775808) : Ieee.double.order x y = none := by
  unfold Ieee.Format.order
  rw [read_nan x hx]; rfl
theorem order_nan_right (x y : Nat) (hy : 9218868437227405312 < y % 9223372036854775808) : Ieee.double.order x y = none := by
  unfold Ieee.Format.order
  rw [read_nan y hy]
  cases Ieee.double.read x <;> rfl
end Go.Proofs.Ytajdmihbhpbofaa
