/- Walks of the small float functions: what each returns, and that the world stays. Conditions: the words are below 2^64. -/
import Derived.Test.YtajdmihbhpbofaaRows
import Derived.WalkKit
import Derived.ProofKit
import Derived.OpenShut
import Derived.WalkLawsBesides
import Derived.Handy
import Derived.Laws.BitsAll
import Derived.Laws.Externs
import Derived.Test.YtajdmihbhpbofaaTpB
namespace Go.Proofs.Ytajdmihbhpbofaa
open Go.ChangeShapes Go.WideShapes Go.ChangeAt Go.RowKit

/-! ### The bits of words -/
def quiet (x : Nat) : Int := Go.bits .or .u64 x 2251799813685248
def keyN (x : Nat) : Nat := if x < 9223372036854775808 then x + 9223372036854775808 else 18446744073709551615 - x
def fkN (k : Nat) : Nat := if k < 9223372036854775808 then 18446744073709551615 - k else k - 9223372036854775808

theorem andNot_sign (x : Nat) (hx : x < 18446744073709551616) : Go.bits .andNot .u64 x 9223372036854775808 = ((x % 9223372036854775808 : Nat) : Int) := by
  rw [u64_andNot _ _ (by omega) (by omega) (by decide) (by decide)]
  congr 1
  exact Nat.and_two_pow_sub_one_eq_mod x 63
theorem and_sign (x : Nat) (hx : x < 18446744073709551616) : Go.bits .and .u64 x 9223372036854775808 = if x < 9223372036854775808 then 0 else 9223372036854775808 := by
  rw [u64_and _ _ (by omega) (by omega) (by decide) (by decide)]
  show ((x &&& 9223372036854775808 : Nat) : Int) = _
  rw [nat_bit63]
  split <;> omega
theorem or_sign (x : Nat) (hx : x < 9223372036854775808) : Go.bits .or .u64 x 9223372036854775808 = ((x + 9223372036854775808 : Nat) : Int) := by
  rw [u64_or _ _ (by omega) (by omega) (by decide) (by decide)]
  congr 1
  have := Nat.two_pow_add_eq_or_of_lt (i := 63) hx 1
  show x ||| 9223372036854775808 = _
  rw [Nat.or_comm, ← this]; omega
theorem xor_max (x : Nat) (hx : x < 18446744073709551616) : Go.bits .xor .u64 18446744073709551615 x = ((18446744073709551615 - x : Nat) : Int) := by
  rw [u64_xor _ _ (by decide) (by decide) (by omega) (by omega)]
  congr 1
  have h := BitVec.toNat_not (x := BitVec.ofNat 64 x)
  rw [← BitVec.allOnes_xor, BitVec.toNat_xor, BitVec.toNat_ofNat, Nat.mod_eq_of_lt hx, BitVec.toNat_allOnes] at h
  exact h

/-! ### The calls that the model answers -/
theorem frombits (n : Int) (w : World) : (callFunc 4 #[.int .u64 n]).run Try.prog w = .ok (.value (.float .f64 n.toNat)) w := by
  kernel_rfl
theorem tobits (n : Nat) (w : World) : (callFunc 15 #[.float .f64 n]).run Try.prog w = .ok (.value (.int .u64 n)) w := by
  kernel_rfl

/-! ### The small functions -/
theorem number_any (x : Nat) (w : World) : Calls Try.prog 25 #[.int .u64 x] w fun e w' => e = .returned (.float .f64 x) ∧ w' = w := by
  go_enter Try.func25, Try.ntmps25
  go_wp2_with (simp only [frombits])
  go_ret
  exact ⟨rfl, rfl⟩
theorem less_any (x y : Nat) (w : World) : Calls Try.prog 8 #[.int .u64 x, .int .u64 y] w fun e w' => e = .returned (.bool (FloatKind.f64.format.order x y == some .lt)) ∧ w' = w := by
  go_enter Try.func8, Try.ntmps8
  go_wp2_with (go_call (number_any _ _) as e w' ⟨rfl, rfl⟩)
  go_ret
  exact ⟨rfl, rfl⟩
theorem equal_any (x y : Nat) (w : World) : Calls Try.prog 9 #[.int .u64 x, .int .u64 y] w fun e w' => e = .returned (.bool (FloatKind.f64.format.order x y == some .eq)) ∧ w' = w := by
  go_enter Try.func9, Try.ntmps9
  go_wp2_with (go_call (number_any _ _) as e w' ⟨rfl, rfl⟩)
  go_ret
  exact ⟨rfl, rfl⟩
theorem abs_any (x : Nat) (hx : x < 18446744073709551616) (w : World) : Calls Try.prog 6 #[.float .f64 x] w fun e w' => e = .returned (.float .f64 (x % 9223372036854775808)) ∧ w' = w := by
  go_enter Try.func6, Try.ntmps6
  go_wp2_with (simp only [frombits, tobits])
  go_ret
  refine ⟨?_, rfl⟩
  simp only [andNot_sign x hx]; rfl
theorem neg_any (x : Nat) (w : World) : Calls Try.prog 10 #[.int .u64 x] w fun e w' => e = .returned (.int .u64 (Go.bits .xor .u64 x 9223372036854775808)) ∧ w' = w := by
  go_enter Try.func10, Try.ntmps10
  go_wp2
  go_ret
  exact ⟨rfl, rfl⟩
theorem fabs_any (x : Nat) (w : World) : Calls Try.prog 11 #[.int .u64 x] w fun e w' => e = .returned (.int .u64 (Go.bits .andNot .u64 x 9223372036854775808)) ∧ w' = w := by
  go_enter Try.func11, Try.ntmps11
  go_wp2
  go_ret
  exact ⟨rfl, rfl⟩
theorem key_any (x : Nat) (hx : x < 18446744073709551616) (w : World) : Calls Try.prog 13 #[.int .u64 x] w fun e w' => e = .returned (.int .u64 (keyN x : Nat)) ∧ w' = w := by
  have h := and_sign x hx
  by_cases hs : x < 9223372036854775808
  · rw [if_pos hs] at h
    go_enter Try.func13, Try.ntmps13
    go_wp2
    all_goals go_ret
    refine ⟨?_, rfl⟩
    simp only [or_sign x hs, keyN, hs, if_true]; rfl
  · rw [if_neg hs] at h
    go_enter Try.func13, Try.ntmps13
    go_wp2
    all_goals go_ret
    refine ⟨?_, rfl⟩
    have := xor_max x hx
    simp only [keyN, hs, if_false, ← this]; rfl
theorem fk_any (x : Nat) (hx : x < 18446744073709551616) (w : World) : Calls Try.prog 12 #[.int .u64 x] w fun e w' => e = .returned (.int .u64 (fkN x : Nat)) ∧ w' = w := by
  have h := and_sign x hx
  by_cases hs : x < 9223372036854775808
  · rw [if_pos hs] at h
    go_enter Try.func12, Try.ntmps12
    go_wp2
    all_goals go_ret
    refine ⟨?_, rfl⟩
    have := xor_max x hx
    simp only [fkN, hs, if_true, ← this]; rfl
  · rw [if_neg hs] at h
    go_enter Try.func12, Try.ntmps12
    go_wp2
    all_goals go_ret
    refine ⟨?_, rfl⟩
    have e : x % 9223372036854775808 = x - 9223372036854775808 := by omega
    simp only [andNot_sign x hx, fkN, hs, if_false, e]; rfl
theorem of_any (n : Int) (w : World) : Calls Try.prog 14 #[.int .i64 n] w fun e w' => e = .returned (.int .u64 (floatOfInt .f64 n : Nat)) ∧ w' = w := by
  go_enter Try.func14, Try.ntmps14
  go_wp2_with (simp only [tobits])
  go_ret
  exact ⟨rfl, rfl⟩
theorem isnan_any (x : Nat) (w : World) : Calls Try.prog 28 #[.float .f64 x] w fun e w' => e = .returned (.bool (FloatKind.f64.format.order x x != some .eq)) ∧ w' = w := by
  go_enter Try.func28, Try.ntmps28
  go_wp2
  go_ret
  exact ⟨rfl, rfl⟩
theorem isinf0_any (x : Nat) (hx : x < 18446744073709551616) (w : World) : Calls Try.prog 5 #[.float .f64 x, .int .i64 0] w fun e w' => e = .returned (.bool (FloatKind.f64.format.order (x % 9223372036854775808) 9218868437227405311 == some .gt)) ∧ w' = w := by
  go_enter Try.func5, Try.ntmps5
  go_wp2_with (go_call (abs_any _ hx _) as e w' ⟨rfl, rfl⟩)
  go_ret
  exact ⟨rfl, rfl⟩
theorem isinf1_any (x : Nat) (w : World) : Calls Try.prog 5 #[.float .f64 x, .int .i64 1] w fun e w' => e = .returned (.bool (FloatKind.f64.format.order x 9218868437227405311 == some .gt)) ∧ w' = w := by
  go_enter Try.func5, Try.ntmps5
  go_wp2
  go_ret
  exact ⟨rfl, rfl⟩
theorem inf_any (w : World) : Calls Try.prog 19 #[.int .i64 1] w fun e w' => e = .returned (.float .f64 9218868437227405312) ∧ w' = w := by
  go_enter Try.func19, Try.ntmps19
  go_wp2_with (simp only [frombits])
  go_ret
  exact ⟨rfl, rfl⟩
theorem signbit_any (x : Nat) (hx : x < 18446744073709551616) (w : World) : Calls Try.prog 31 #[.float .f64 x] w fun e w' => e = .returned (.bool (decide (9223372036854775808 ≤ x))) ∧ w' = w := by
  go_enter Try.func31, Try.ntmps31
  go_wp2_with (simp only [tobits])
  go_ret
  refine ⟨?_, rfl⟩
  have : decide (wrap64 (x : Int) < 0) = decide (9223372036854775808 ≤ x) := by
    apply decide_eq_decide.2
    unfold wrap64; omega
  simp only [this]; rfl
end Go.Proofs.Ytajdmihbhpbofaa
