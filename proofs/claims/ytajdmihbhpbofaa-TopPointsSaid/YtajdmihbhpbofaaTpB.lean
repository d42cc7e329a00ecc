/- A number that is whole and lies within 64 bits is equal to the float of its whole part. No conditions but those in each statement. -/
import Derived.Test.YtajdmihbhpbofaaTpA
namespace Go.Proofs.Ytajdmihbhpbofaa
open Ieee

/-- The number made whole. -/
def trunc (x : Nat) : Nat := Ieee.double.write ((Ieee.double.read x).integral .zero)
/-- The magnitude of the whole part. -/
def part (r : Nat) : Nat := Ieee.Toward.zero.cut false (mag r <<< (-1074 + (up r : Int)).toNat) (-(-1074 + (up r : Int))).toNat

theorem cut_zero (s : Bool) (n d : Nat) : Ieee.Toward.zero.cut s n d = n / (1 <<< min d (n.log2 + 2)) := by
  unfold Ieee.Toward.cut; simp

theorem part_le (r n : Nat) (hn : n = 1074) : part r * 2 ^ n ≤ val r := by
  unfold part
  rw [cut_zero, Nat.shiftLeft_eq, Nat.shiftLeft_eq, Nat.one_mul]
  by_cases h : n ≤ up r
  · have e1 : (-1074 + (up r : Int)).toNat = up r - n := by omega
    have e2 : (-(-1074 + (up r : Int))).toNat = 0 := by omega
    rw [e1, e2, Nat.zero_min, Nat.pow_zero, Nat.div_one, Nat.mul_assoc, ← Nat.pow_add, Nat.sub_add_cancel h]
    exact Nat.le_refl _
  · have e1 : (-1074 + (up r : Int)).toNat = 0 := by omega
    have e2 : (-(-1074 + (up r : Int))).toNat = n - up r := by omega
    rw [e1, e2, Nat.pow_zero, Nat.mul_one]
    by_cases h' : n - up r ≤ (mag r).log2 + 2
    · rw [Nat.min_eq_left h']
      have e3 : (2 : Nat) ^ n = 2 ^ (n - up r) * 2 ^ up r := by rw [← Nat.pow_add]; congr 1; omega
      rw [e3, ← Nat.mul_assoc]
      exact Nat.mul_le_mul_right _ (Nat.div_mul_le_self _ _)
    · rw [Nat.min_eq_right (by omega)]
      have : mag r / 2 ^ ((mag r).log2 + 2) = 0 := by
        apply Nat.div_eq_of_lt
        have := @Nat.lt_log2_self (mag r)
        exact Nat.lt_of_lt_of_le this (Nat.pow_le_pow_right (by decide) (by omega))
      rw [this, Nat.zero_mul]; exact Nat.zero_le _

theorem trunc_num (x : Nat) (h : x % 9223372036854775808 < 9218868437227405312) : trunc x = Ieee.double.nearest (x / 9223372036854775808 % 2 == 1) (part (x % 9223372036854775808)) 0 := by
  unfold trunc part
  rw [read_num x h]
  simp only [Ieee.Datum.integral, Ieee.Format.write, cut_zero]

theorem order_zero (s : Bool) (y : Nat) : Ieee.double.order y (Ieee.double.nearest s 0 0) = Ieee.double.order y 0 := by
  by_cases hy : 9218868437227405312 < y % 9223372036854775808
  · rw [order_nan_left _ _ hy, order_nan_left _ _ hy]
  · have : Ieee.double.nearest s 0 0 = if s then 9223372036854775808 else 0 := by
      unfold Ieee.Format.nearest; rw [if_pos rfl]; cases s <;> decide
    rw [this]
    cases s
    · rfl
    · rw [order_sv _ _ (by omega) (by decide), order_sv _ _ (by omega) (by decide)]; rfl

theorem order_symm_eq (x y : Nat) (h : Ieee.double.order x y = some .eq) : Ieee.double.order y x = some .eq := by
  by_cases hx : 9218868437227405312 < x % 9223372036854775808
  · rw [order_nan_left _ _ hx] at h; cases h
  by_cases hy : 9218868437227405312 < y % 9223372036854775808
  · rw [order_nan_right _ _ hy] at h; cases h
  rw [order_sv _ _ (by omega) (by omega)] at h ⊢
  have : sv x = sv y := by
    simp only [compare, compareOfLessAndEq, Option.some.injEq] at h
    by_cases h1 : sv x < sv y
    · rw [if_pos h1] at h; cases h
    · rw [if_neg h1] at h
      by_cases h2 : sv x = sv y
      · exact h2
      · rw [if_neg h2] at h; cases h
  rw [this]
  simp [compare, compareOfLessAndEq]

theorem cmp_eq {a b : Int} : compare a b = .eq ↔ a = b := by
  simp only [compare, compareOfLessAndEq]
  by_cases h1 : a < b
  · rw [if_pos h1]; constructor
    · intro h; cases h
    · omega
  · rw [if_neg h1]
    by_cases h2 : a = b
    · simp [h2]
    · simp [h2]
theorem cmp_lt {a b : Int} : compare a b = .lt ↔ a < b := by
  simp only [compare, compareOfLessAndEq]
  by_cases h1 : a < b
  · simp [h1]
  · rw [if_neg h1]
    by_cases h2 : a = b
    · simp [h2]
    · simp [h2, h1]
theorem cmp_gt {a b : Int} : compare a b = .gt ↔ b < a := by
  simp only [compare, compareOfLessAndEq]
  by_cases h1 : a < b
  · rw [if_pos h1]; constructor
    · intro h; cases h
    · omega
  · rw [if_neg h1]
    by_cases h2 : a = b
    · simp [h2]
    · simp [h2]; omega

/-- A NUMBER THAT IS WHOLE AND FITS: int(x) is defined, and float64(int(x)) is equal to x. -/
theorem whole_fits (x : Nat) (hx : x % 9223372036854775808 ≤ 9218868437227405312) (ht : Ieee.double.order x (trunc x) = some .eq)
    (hlo : Ieee.double.order x 14114281232179134464 ≠ some .lt) (hhi : Ieee.double.order x 4890909195324358656 = some .lt) :
    ∃ n : Int, floatToIntVal .f64 x .i64 = some n ∧ Ieee.double.order (floatOfInt .f64 n) x = some .eq := by
  rw [order_sv _ _ hx (by decide)] at hlo hhi
  simp only [ne_eq, Option.some.injEq, cmp_lt] at hlo hhi
  have c1 : sv 14114281232179134464 = -4890909195324358656 := by decide
  have c2 : sv 4890909195324358656 = 4890909195324358656 := by decide
  rw [c1] at hlo
  rw [c2] at hhi
  have hr : x % 9223372036854775808 ≤ 4890909195324358656 ∧ (x / 9223372036854775808 % 2 ≠ 1 → x % 9223372036854775808 < 4890909195324358656) := by
    unfold sv at hlo hhi
    split at hlo <;> rename_i h
    · rw [if_pos h] at hhi; constructor
      · omega
      · intro h'; exact absurd h h'
    · rw [if_neg h] at hhi; constructor <;> omega
  have hx' : x % 9223372036854775808 < 9218868437227405312 := by omega
  obtain ⟨n, hn⟩ : ∃ n, n = 1074 := ⟨_, rfl⟩
  have hv : val 4890909195324358656 = 9223372036854775808 * 2 ^ n := by subst hn; decide +kernel
  have hp : 0 < 2 ^ n := Nat.two_pow_pos _
  have p1 : part (x % 9223372036854775808) ≤ 9223372036854775808 := by
    have h1 := part_le (x % 9223372036854775808) n hn
    have h2 := val_le hr.1
    rw [hv] at h2
    exact Nat.le_of_mul_le_mul_right (Nat.le_trans h1 h2) hp
  have p2 : x / 9223372036854775808 % 2 ≠ 1 → part (x % 9223372036854775808) < 9223372036854775808 := by
    intro h
    have h1 := part_le (x % 9223372036854775808) n hn
    have h2 := val_lt (hr.2 h)
    rw [hv] at h2
    exact Nat.lt_of_mul_lt_mul_right (Nat.lt_of_le_of_lt h1 h2)
  have hd : (FloatKind.decode .f64 x).toInt .zero = some (Ieee.signed (x / 9223372036854775808 % 2 == 1) (part (x % 9223372036854775808)) 0) := by
    show (Ieee.double.read x).toInt .zero = _
    rw [read_num x hx']
    unfold part
    simp only [Ieee.Datum.toInt, Ieee.Datum.integral, cut_zero]
  rw [trunc_num x hx'] at ht
  refine ⟨Ieee.signed (x / 9223372036854775808 % 2 == 1) (part (x % 9223372036854775808)) 0, ?_, ?_⟩
  · unfold floatToIntVal
    rw [hd]
    simp only
    rw [if_pos]
    unfold Ieee.signed
    have e1 : IntKind.min .i64 = -9223372036854775808 := by decide
    have e2 : IntKind.max .i64 = 9223372036854775807 := by decide
    rw [e1, e2, Nat.shiftLeft_zero]
    by_cases h : x / 9223372036854775808 % 2 = 1
    · rw [h]; simp only [beq_self_eq_true, if_true]; omega
    · have b : (x / 9223372036854775808 % 2 == 1) = false := by simpa using h
      have := p2 h
      rw [b]; simp only [Bool.false_eq_true, if_false]; omega
  · apply order_symm_eq
    show Ieee.double.order x (Ieee.double.write (.number _ _ 0)) = some .eq
    generalize hpp : part (x % 9223372036854775808) = p at *
    generalize (x / 9223372036854775808 % 2 == 1) = s at *
    simp only [Ieee.Format.write]
    have en : (Ieee.signed s p 0).natAbs = p := by
      unfold Ieee.signed; rw [Nat.shiftLeft_zero]; cases s <;> simp
    rw [en]
    by_cases hp0 : p = 0
    · subst hp0
      rw [order_zero] at ht ⊢
      exact ht
    · have es : decide (Ieee.signed s p 0 < 0) = s := by
        unfold Ieee.signed; rw [Nat.shiftLeft_zero]; cases s <;> simp <;> omega
      rw [es]; exact ht
end Go.Proofs.Ytajdmihbhpbofaa
