/- Walks of float.Next and of the search for a NaN. Conditions: the words are below 2^64. -/
import Derived.Test.YtajdmihbhpbofaaTpE
namespace Go.Proofs.Ytajdmihbhpbofaa
open Go.ChangeShapes Go.WideShapes Go.ChangeAt Go.RowKit

def nextN (x : Nat) : Nat := if 9218868437227405312 < x % 9223372036854775808 then x else if x = 9218868437227405312 then x else if x % 9223372036854775808 = 0 then 1 else if x < 9223372036854775808 then x + 1 else x - 1

theorem sv_pos {x : Nat} (hx : x < 9223372036854775808) : sv x = x := by
  unfold sv; rw [if_neg (by omega)]; omega
theorem sv_neg {x : Nat} (h : 9223372036854775808 ≤ x) (hx : x < 18446744073709551616) : sv x = 9223372036854775808 - (x : Int) := by
  unfold sv; rw [if_pos (by omega)]; omega
theorem inf_test (x : Nat) (hx : x < 18446744073709551616) (hn : x % 9223372036854775808 ≤ 9218868437227405312) : (FloatKind.f64.format.order x 9218868437227405311 == some .gt) = decide (x = 9218868437227405312) := by
  have c : sv 9218868437227405311 = 9218868437227405311 := by decide
  rw [gt_iff _ _ hn (by decide), c]
  apply decide_eq_decide.2
  by_cases h : x < 9223372036854775808
  · rw [sv_pos h]; omega
  · rw [sv_neg (by omega) hx]; omega
theorem zero_test (x : Nat) (hx : x < 18446744073709551616) (hn : x % 9223372036854775808 ≤ 9218868437227405312) : (FloatKind.f64.format.order x 0 == some .eq) = decide (x % 9223372036854775808 = 0) := by
  have c : sv 0 = 0 := by decide
  rw [eq_iff _ _ hn (by decide), c]
  apply decide_eq_decide.2
  by_cases h : x < 9223372036854775808
  · rw [sv_pos h]; omega
  · rw [sv_neg (by omega) hx]; omega
theorem self_test (x : Nat) : (FloatKind.f64.format.order x x != some .eq) = decide (9218868437227405312 < x % 9223372036854775808) := by
  simp only [bne, nan_iff]
  by_cases h : x % 9223372036854775808 ≤ 9218868437227405312
  · rw [decide_eq_true h, decide_eq_false (by omega)]; rfl
  · rw [decide_eq_false h, decide_eq_true (by omega)]; rfl

theorem next_any (x : Nat) (hx : x < 18446744073709551616) (w : World) : Calls Try.prog 20 #[.int .u64 x] w fun e w' => e = .returned (.int .u64 (nextN x : Nat)) ∧ w' = w := by
  have t1 := self_test x
  by_cases hn : x % 9223372036854775808 ≤ 9218868437227405312
  · rw [decide_eq_false (by omega)] at t1
    have t2 := inf_test x hx hn
    by_cases hi : x = 9218868437227405312
    · rw [decide_eq_true hi] at t2
      have e : nextN x = x := by unfold nextN; rw [if_neg (by omega), if_pos hi]
      rw [e]
      go_enter Try.func20, Try.ntmps20
      go_wp2_with (first | (go_call (number_any _ _) as e w' ⟨rfl, rfl⟩) | (go_call (isinf1_any _ _) as e w' ⟨rfl, rfl⟩))
      go_ret
      exact ⟨by rw [hi]; rfl, rfl⟩
    · rw [decide_eq_false hi] at t2
      have t3 := zero_test x hx hn
      by_cases hz : x % 9223372036854775808 = 0
      · rw [decide_eq_true hz] at t3
        have e : nextN x = 1 := by unfold nextN; rw [if_neg (by omega), if_neg hi, if_pos hz]
        rw [e]
        go_enter Try.func20, Try.ntmps20
        go_wp2_with (first | (go_call (number_any _ _) as e w' ⟨rfl, rfl⟩) | (go_call (isinf1_any _ _) as e w' ⟨rfl, rfl⟩) | (simp only [tobits]))
        go_ret
        exact ⟨rfl, rfl⟩
      · rw [decide_eq_false hz] at t3
        by_cases hs : x < 9223372036854775808
        · have e : nextN x = x + 1 := by unfold nextN; rw [if_neg (by omega), if_neg hi, if_neg hz, if_pos hs]
          have t4 : decide (9223372036854775808 ≤ x) = false := decide_eq_false (by omega)
          rw [e]
          go_enter Try.func20, Try.ntmps20
          go_wp2_with (first | (go_call (number_any _ _) as e w' ⟨rfl, rfl⟩) | (go_call (isinf1_any _ _) as e w' ⟨rfl, rfl⟩) | (go_call (signbit_any _ hx _) as e w' ⟨rfl, rfl⟩))
          go_ret
          refine ⟨?_, rfl⟩
          rfl
        · have e : nextN x = x - 1 := by unfold nextN; rw [if_neg (by omega), if_neg hi, if_neg hz, if_neg hs]
          have t4 : decide (9223372036854775808 ≤ x) = true := decide_eq_true (by omega)
          have e2 : ((x - 1 : Nat) : Int) = x - 1 := by omega
          rw [e, e2]
          go_enter Try.func20, Try.ntmps20
          go_wp2_with (first | (go_call (number_any _ _) as e w' ⟨rfl, rfl⟩) | (go_call (isinf1_any _ _) as e w' ⟨rfl, rfl⟩) | (go_call (signbit_any _ hx _) as e w' ⟨rfl, rfl⟩))
          go_ret
          refine ⟨?_, rfl⟩
          rfl
  · rw [decide_eq_true (by omega)] at t1
    have e : nextN x = x := by unfold nextN; rw [if_pos (by omega)]
    rw [e]
    go_enter Try.func20, Try.ntmps20
    go_wp2_with (first | (go_call (number_any _ _) as e w' ⟨rfl, rfl⟩) | (go_call (isinf1_any _ _) as e w' ⟨rfl, rfl⟩))
    go_ret
    exact ⟨rfl, rfl⟩

/-! ### Which of two is none -/
def isNan (x : Nat) : Bool := FloatKind.f64.format.order x x != some .eq
def pickNan (x y : Nat) : Int × Bool := if isNan x then (Go.bits .or .u64 x 2251799813685248, true) else if isNan y then (Go.bits .or .u64 y 2251799813685248, true) else (0, false)
theorem nan_any (x y : Nat) (w : World) : Calls Try.prog 32 #[.int .u64 x, .int .u64 y] w fun e w' => e = .returned (.tuple #[.int .u64 (pickNan x y).1, .bool (pickNan x y).2]) ∧ Grown w w' := by
  by_cases h1 : isNan x = true
  · have t1 : (FloatKind.f64.format.order x x != some .eq) = true := h1
    have e : pickNan x y = (Go.bits .or .u64 x 2251799813685248, true) := by unfold pickNan; rw [if_pos h1]
    rw [e]
    go_enter Try.func32, Try.ntmps32
    go_wp2_with (first | (go_call (number_any _ _) as e w' ⟨rfl, rfl⟩) | (go_call (isnan_any _ _) as e w' ⟨rfl, rfl⟩))
    refine wp_loop_rounds 3 ?_
    repeat any_goals (rw [rounds_succ]; go_wp2_with (first | (go_call (number_any _ _) as e w' ⟨rfl, rfl⟩) | (go_call (isnan_any _ _) as e w' ⟨rfl, rfl⟩)))
    go_ret2
    exact ⟨rfl, by go_grown⟩
  · have h1' : isNan x = false := by simpa using h1
    have t1 : (FloatKind.f64.format.order x x != some .eq) = false := h1'
    by_cases h2 : isNan y = true
    · have t2 : (FloatKind.f64.format.order y y != some .eq) = true := h2
      have e : pickNan x y = (Go.bits .or .u64 y 2251799813685248, true) := by unfold pickNan; rw [if_neg h1, if_pos h2]
      rw [e]
      go_enter Try.func32, Try.ntmps32
      go_wp2_with (first | (go_call (number_any _ _) as e w' ⟨rfl, rfl⟩) | (go_call (isnan_any _ _) as e w' ⟨rfl, rfl⟩))
      refine wp_loop_rounds 3 ?_
      repeat any_goals (rw [rounds_succ]; go_wp2_with (first | (go_call (number_any _ _) as e w' ⟨rfl, rfl⟩) | (go_call (isnan_any _ _) as e w' ⟨rfl, rfl⟩)))
      go_ret2
      exact ⟨rfl, by go_grown⟩
    · have h2' : isNan y = false := by simpa using h2
      have t2 : (FloatKind.f64.format.order y y != some .eq) = false := h2'
      have e : pickNan x y = (0, false) := by unfold pickNan; rw [if_neg h1, if_neg h2]
      rw [e]
      go_enter Try.func32, Try.ntmps32
      go_wp2_with (first | (go_call (number_any _ _) as e w' ⟨rfl, rfl⟩) | (go_call (isnan_any _ _) as e w' ⟨rfl, rfl⟩))
      refine wp_loop_rounds 3 ?_
      repeat any_goals (rw [rounds_succ]; go_wp2_with (first | (go_call (number_any _ _) as e w' ⟨rfl, rfl⟩) | (go_call (isnan_any _ _) as e w' ⟨rfl, rfl⟩)))
      go_ret2
      exact ⟨rfl, by go_grown⟩
end Go.Proofs.Ytajdmihbhpbofaa
