/- Walks of float.Int and of math.Nextafter, over plain laws of the order. Conditions: the words are below 2^64. -/
import Derived.Test.YtajdmihbhpbofaaTpD
namespace Go.Proofs.Ytajdmihbhpbofaa
open Go.ChangeShapes Go.WideShapes Go.ChangeAt Go.RowKit

/-! ### The order, said by the words -/
theorem nan_iff (x : Nat) : (FloatKind.f64.format.order x x == some .eq) = decide (x % 9223372036854775808 ≤ 9218868437227405312) := by
  show (Ieee.double.order x x == some .eq) = _
  by_cases h : x % 9223372036854775808 ≤ 9218868437227405312
  · rw [order_sv x x h h, decide_eq_true h, cmp_eq.2 rfl]; rfl
  · rw [order_nan_left x x (by omega), decide_eq_false h]; rfl
theorem eq_iff (x y : Nat) (hx : x % 9223372036854775808 ≤ 9218868437227405312) (hy : y % 9223372036854775808 ≤ 9218868437227405312) : (FloatKind.f64.format.order x y == some .eq) = decide (sv x = sv y) := by
  show (Ieee.double.order x y == some .eq) = _
  rw [order_sv x y hx hy]
  by_cases h : sv x = sv y
  · rw [decide_eq_true h, cmp_eq.2 h]; rfl
  · rw [decide_eq_false h]
    cases hc : compare (sv x) (sv y)
    · rfl
    · exact absurd (cmp_eq.1 hc) h
    · rfl
theorem lt_iff (x y : Nat) (hx : x % 9223372036854775808 ≤ 9218868437227405312) (hy : y % 9223372036854775808 ≤ 9218868437227405312) : (FloatKind.f64.format.order x y == some .lt) = decide (sv x < sv y) := by
  show (Ieee.double.order x y == some .lt) = _
  rw [order_sv x y hx hy]
  by_cases h : sv x < sv y
  · rw [decide_eq_true h, cmp_lt.2 h]; rfl
  · rw [decide_eq_false h]
    cases hc : compare (sv x) (sv y)
    · exact absurd (cmp_lt.1 hc) h
    · rfl
    · rfl
theorem gt_iff (x y : Nat) (hx : x % 9223372036854775808 ≤ 9218868437227405312) (hy : y % 9223372036854775808 ≤ 9218868437227405312) : (FloatKind.f64.format.order x y == some .gt) = decide (sv y < sv x) := by
  show (Ieee.double.order x y == some .gt) = _
  rw [order_sv x y hx hy]
  by_cases h : sv y < sv x
  · rw [decide_eq_true h, cmp_gt.2 h]; rfl
  · rw [decide_eq_false h]
    cases hc : compare (sv x) (sv y)
    · rfl
    · rfl
    · exact absurd (cmp_gt.1 hc) h
theorem no_order (x y : Nat) (o : Ordering) (h : 9218868437227405312 < x % 9223372036854775808 ∨ 9218868437227405312 < y % 9223372036854775808) : (FloatKind.f64.format.order x y == some o) = false := by
  show (Ieee.double.order x y == some o) = false
  rcases h with h | h
  · rw [order_nan_left x y h]; rfl
  · rw [order_nan_right x y h]; rfl

/-! ### Whole numbers -/
def fitsB (x : Nat) : Bool := decide (x % 9223372036854775808 ≤ 9218868437227405312) && (FloatKind.f64.format.order x (trunc x) == some .eq) && (!(FloatKind.f64.format.order x 14114281232179134464 == some .lt)) && (FloatKind.f64.format.order x 4890909195324358656 == some .lt)

theorem int_any (x : Nat) (w : World) : Calls Try.prog 16 #[.int .u64 x] w fun e w' => ∃ n : Int, e = .returned (.tuple #[.int .i64 n, .bool (fitsB x)]) ∧ (w' = w ∨ w' = w.drew) ∧
    (fitsB x = true → FloatKind.f64.format.order (floatOfInt .f64 n) x = some .eq) ∧ (fitsB x = false → n = 0) := by
  by_cases hn : x % 9223372036854775808 ≤ 9218868437227405312
  · by_cases h1 : (FloatKind.f64.format.order x (trunc x) == some .eq) = true
    · have h1' : (FloatKind.f64.format.order x (trunc x) != some .eq) = false := by simpa [bne] using h1
      by_cases h2 : (FloatKind.f64.format.order x 14114281232179134464 == some .lt) = true
      · have hf : fitsB x = false := by simp [fitsB, h2]
        rw [hf]
        go_enter Try.func16, Try.ntmps16
        go_wp2_with (first | (go_call (number_any _ _) as e w' ⟨rfl, rfl⟩) | (go_call (trunc_num_any _ hn _) as e w' ⟨rfl, rfl⟩))
        go_ret2
        exact ⟨0, rfl, .inl rfl, fun h => absurd h (by decide), fun _ => rfl⟩
      · have h2' : (FloatKind.f64.format.order x 14114281232179134464 == some .lt) = false := by simpa using h2
        by_cases h3 : (FloatKind.f64.format.order x 4890909195324358656 == some .lt) = true
        · have hf : fitsB x = true := by simp only [fitsB, h1, h2', h3, decide_eq_true hn]; rfl
          have h3e : FloatKind.f64.format.order x 4890909195324358656 = some .lt := by simpa using h3
          have h3' : (FloatKind.f64.format.order x 4890909195324358656 == some .gt || FloatKind.f64.format.order x 4890909195324358656 == some .eq) = false := by rw [h3e]; rfl
          obtain ⟨n, hv, ho⟩ := whole_fits x hn (beq_iff_eq.1 h1) (fun h => h2 (beq_iff_eq.2 h)) h3e
          have hc : ∀ w : World, (convert 23 3 (.float .f64 x)).run Try.prog w = .ok (.int .i64 n) w := fun w => run_convert_float_int w 23 3 .f64 .i64 x n (by kernel_rfl) Try.underlying3 hv
          rw [hf]
          go_enter Try.func16, Try.ntmps16
          go_wp2_with (first | (go_call (number_any _ _) as e w' ⟨rfl, rfl⟩) | (go_call (trunc_num_any _ hn _) as e w' ⟨rfl, rfl⟩))
          go_ret2
          exact ⟨n, rfl, .inl rfl, fun _ => ho, fun h => absurd h (by decide)⟩
        · have h3e : (FloatKind.f64.format.order x 4890909195324358656 == some .lt) = false := by simpa using h3
          have hf : fitsB x = false := by simp only [fitsB, h3e, Bool.and_false]
          have h3' : (FloatKind.f64.format.order x 4890909195324358656 == some .gt || FloatKind.f64.format.order x 4890909195324358656 == some .eq) = true := by
            rw [lt_iff _ _ hn (by decide)] at h3e
            rw [gt_iff _ _ hn (by decide), eq_iff _ _ hn (by decide)]
            simp only [decide_eq_false_iff_not, Bool.or_eq_true, decide_eq_true_eq] at h3e ⊢
            omega
          rw [hf]
          go_enter Try.func16, Try.ntmps16
          go_wp2_with (first | (go_call (number_any _ _) as e w' ⟨rfl, rfl⟩) | (go_call (trunc_num_any _ hn _) as e w' ⟨rfl, rfl⟩))
          go_ret2
          exact ⟨0, rfl, .inl rfl, fun h => absurd h (by decide), fun _ => rfl⟩
    · have h1e : (FloatKind.f64.format.order x (trunc x) == some .eq) = false := by simpa using h1
      have h1' : (FloatKind.f64.format.order x (trunc x) != some .eq) = true := by simp only [bne, h1e]; rfl
      have hf : fitsB x = false := by simp only [fitsB, h1e, Bool.and_false, Bool.false_and]
      rw [hf]
      go_enter Try.func16, Try.ntmps16
      go_wp2_with (first | (go_call (number_any _ _) as e w' ⟨rfl, rfl⟩) | (go_call (trunc_num_any _ hn _) as e w' ⟨rfl, rfl⟩))
      go_ret2
      exact ⟨0, rfl, .inl rfl, fun h => absurd h (by decide), fun _ => rfl⟩
  · have h1' : ∀ t, (FloatKind.f64.format.order x t != some .eq) = true := fun t => by simp only [bne, no_order x t .eq (.inl (by omega))]; rfl
    have hf : fitsB x = false := by simp only [fitsB, decide_eq_false hn, Bool.false_and]
    rw [hf]
    go_enter Try.func16, Try.ntmps16
    go_wp2_with (first | (go_call (number_any _ _) as e w' ⟨rfl, rfl⟩) | (go_call (trunc_nan_any _ (by omega) _) as e w' ⟨t, rfl, hw⟩; have h1t := h1' t))
    go_ret2
    exact ⟨0, rfl, hw, fun h => absurd h (by decide), fun _ => rfl⟩

/-! ### The next one -/
theorem nextafter_any (x : Nat) (hx : x < 18446744073709551616) (hn : x % 9223372036854775808 ≤ 9218868437227405312) (hi : x ≠ 9218868437227405312) (hz : x % 9223372036854775808 ≠ 0) (w : World) :
    Calls Try.prog 18 #[.float .f64 x, .float .f64 9218868437227405312] w fun e w' => e = .returned (.float .f64 (if x < 9223372036854775808 then x + 1 else x - 1)) ∧ w' = w := by
  have n1 : (FloatKind.f64.format.order x x != some .eq) = false := by simp only [bne, nan_iff, decide_eq_true hn]; rfl
  have n2 : (FloatKind.f64.format.order 9218868437227405312 9218868437227405312 != some .eq) = false := by decide +kernel
  have c1 : sv 9218868437227405312 = 9218868437227405312 := by decide
  have c0 : sv 0 = 0 := by decide
  have hs : x / 9223372036854775808 % 2 = if x < 9223372036854775808 then 0 else 1 := by split <;> omega
  have n3 : (FloatKind.f64.format.order x 9218868437227405312 == some .eq) = false := by
    rw [eq_iff _ _ hn (by decide), c1]; apply decide_eq_false; unfold sv; rw [hs]; split <;> split <;> omega
  have n4 : (FloatKind.f64.format.order x 0 == some .eq) = false := by
    rw [eq_iff _ _ hn (by decide), c0]; apply decide_eq_false; unfold sv; rw [hs]; split <;> omega
  have n5 : (FloatKind.f64.format.order 9218868437227405312 x == some .gt) = true := by
    rw [gt_iff _ _ (by decide) hn, c1]; apply decide_eq_true; unfold sv; rw [hs]; split <;> split <;> omega
  by_cases h : x < 9223372036854775808
  · have n6 : (FloatKind.f64.format.order x 0 == some .gt) = true := by
      rw [gt_iff _ _ hn (by decide), c0]; apply decide_eq_true; unfold sv; rw [hs]; split <;> split <;> omega
    rw [if_pos h]
    go_enter Try.func18, Try.ntmps18
    go_wp2_with (first | (go_call (isnan_any _ _) as e w' ⟨rfl, rfl⟩) | (simp only [frombits, tobits]))
    go_ret
    exact ⟨rfl, rfl⟩
  · have n6 : (FloatKind.f64.format.order x 0 == some .gt) = false := by
      rw [gt_iff _ _ hn (by decide), c0]; apply decide_eq_false; unfold sv; rw [hs]; split <;> split <;> omega
    rw [if_neg h]
    go_enter Try.func18, Try.ntmps18
    go_wp2_with (first | (go_call (isnan_any _ _) as e w' ⟨rfl, rfl⟩) | (simp only [frombits, tobits]))
    go_ret
    exact ⟨rfl, rfl⟩
end Go.Proofs.Ytajdmihbhpbofaa
