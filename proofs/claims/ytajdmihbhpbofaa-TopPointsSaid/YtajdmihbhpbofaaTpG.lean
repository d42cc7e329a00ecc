/- Walks of float.Min, float.Max, math.Min and math.Max. Conditions: the words are below 2^64. -/
import Derived.Test.YtajdmihbhpbofaaTpF
namespace Go.Proofs.Ytajdmihbhpbofaa
open Go.ChangeShapes Go.WideShapes Go.ChangeAt Go.RowKit

def minN (x y : Nat) : Nat := match FloatKind.f64.format.order x y with
  | some .lt => x
  | some .gt => y
  | _ => if (FloatKind.f64.decode x).neg then x else y
def maxN (x y : Nat) : Nat := match FloatKind.f64.format.order x y with
  | some .lt => y
  | some .gt => x
  | _ => if (FloatKind.f64.decode x).neg then y else x
theorem run_min (x y : Nat) (h : FloatKind.f64.format.order x y ≠ none) (w : World) : (Builtin.min_ #[23, 23] 23 #[.float .f64 x, .float .f64 y]).run Try.prog w = .ok (.float .f64 (minN x y)) w := by
  cases ho : FloatKind.f64.format.order x y with
  | none => exact absurd ho h
  | some o => cases o <;> simp [Builtin.min_, Builtin.min2, minN, ho]
theorem run_max (x y : Nat) (h : FloatKind.f64.format.order x y ≠ none) (w : World) : (Builtin.max_ #[23, 23] 23 #[.float .f64 x, .float .f64 y]).run Try.prog w = .ok (.float .f64 (maxN x y)) w := by
  cases ho : FloatKind.f64.format.order x y with
  | none => exact absurd ho h
  | some o => cases o <;> simp [Builtin.max_, Builtin.max2, maxN, ho]

theorem fmin_nan (x y : Nat) (h : (pickNan x y).2 = true) (w : World) : Calls Try.prog 21 #[.int .u64 x, .int .u64 y] w fun e w' => e = .returned (.int .u64 (pickNan x y).1) ∧ Grown w w' := by
  go_enter Try.func21, Try.ntmps21
  go_wp2_with (first | (go_call (number_any _ _) as e w' ⟨rfl, rfl⟩) | (go_call (nan_any _ _ _) as e w' ⟨rfl, hg⟩))
  go_ret
  exact ⟨rfl, hg⟩
theorem fmin_num (x y : Nat) (h : (pickNan x y).2 = false) (h' : FloatKind.f64.format.order x y ≠ none) (w : World) : Calls Try.prog 21 #[.int .u64 x, .int .u64 y] w fun e w' => e = .returned (.int .u64 (minN x y : Nat)) ∧ Grown w w' := by
  have hm := run_min x y h'
  go_enter Try.func21, Try.ntmps21
  go_wp2_with (first | (go_call (number_any _ _) as e w' ⟨rfl, rfl⟩) | (go_call (nan_any _ _ _) as e w' ⟨rfl, hg⟩) | (simp only [tobits]) | (simp only [hm]))
  go_ret
  exact ⟨rfl, hg⟩
theorem fmax_nan (x y : Nat) (h : (pickNan x y).2 = true) (w : World) : Calls Try.prog 22 #[.int .u64 x, .int .u64 y] w fun e w' => e = .returned (.int .u64 (pickNan x y).1) ∧ Grown w w' := by
  go_enter Try.func22, Try.ntmps22
  go_wp2_with (first | (go_call (number_any _ _) as e w' ⟨rfl, rfl⟩) | (go_call (nan_any _ _ _) as e w' ⟨rfl, hg⟩))
  go_ret
  exact ⟨rfl, hg⟩
theorem fmax_num (x y : Nat) (h : (pickNan x y).2 = false) (h' : FloatKind.f64.format.order x y ≠ none) (w : World) : Calls Try.prog 22 #[.int .u64 x, .int .u64 y] w fun e w' => e = .returned (.int .u64 (maxN x y : Nat)) ∧ Grown w w' := by
  have hm := run_max x y h'
  go_enter Try.func22, Try.ntmps22
  go_wp2_with (first | (go_call (number_any _ _) as e w' ⟨rfl, rfl⟩) | (go_call (nan_any _ _ _) as e w' ⟨rfl, hg⟩) | (simp only [tobits]) | (simp only [hm]))
  go_ret
  exact ⟨rfl, hg⟩

/-! ### math.Min, math.Max -/
noncomputable def dim (neg : Bool) (win : Ordering) (x y : Nat) (a b : Ieee.Datum) : Nat :=
      if a == .infinity neg || b == .infinity neg then FloatKind.f64.encode (.infinity neg)
      else if a.isNaN || b.isNaN then 0x7FF8000000000001
      else if a.isZero && b.isZero then (if a.neg == neg then x else y)
      else if a.order b == some win then x else y
theorem arch_min (x y : Nat) (w : World) : (callFunc 33 #[.float .f64 x, .float .f64 y]).run Try.prog w = .ok (.value (.float .f64 (dim true .lt x y (FloatKind.f64.decode x) (FloatKind.f64.decode y)))) w := by
  rw [run_callFunc_extern Try.func33 (by kernel_rfl) (by kernel_rfl) (by kernel_rfl) (e := Extern.MathDim.pick "math.archMin" true .lt) (by kernel_rfl)]
  rfl
theorem arch_max (x y : Nat) (w : World) : (callFunc 35 #[.float .f64 x, .float .f64 y]).run Try.prog w = .ok (.value (.float .f64 (dim false .gt x y (FloatKind.f64.decode x) (FloatKind.f64.decode y)))) w := by
  rw [run_callFunc_extern Try.func35 (by kernel_rfl) (by kernel_rfl) (by kernel_rfl) (e := Extern.MathDim.pick "math.archMax" false .gt) (by kernel_rfl)]
  rfl

theorem isInf_iff (x : Nat) (hx : x < 18446744073709551616) (hn : x % 9223372036854775808 ≤ 9218868437227405312) (s : Bool) : (Ieee.double.read x == .infinity s) = decide (x = if s then 18442240474082181120 else 9218868437227405312) := by
  rcases Nat.lt_or_eq_of_le hn with h | h
  · rw [read_num x h, decide_eq_false (by cases s <;> simp <;> omega)]; rfl
  · rw [read_inf x h]
    by_cases hs : x < 9223372036854775808
    · have e : (x / 9223372036854775808 % 2 == 1) = false := by rw [Nat.div_eq_of_lt hs]; rfl
      rw [e]
      cases s
      · rw [decide_eq_true (by simp; omega)]; rfl
      · rw [decide_eq_false (by simp; omega)]; rfl
    · have e' : x / 9223372036854775808 = 1 := by omega
      rw [e']
      cases s
      · rw [decide_eq_false (by simp; omega)]; rfl
      · rw [decide_eq_true (by simp; omega)]; rfl
theorem isZero_iff (x : Nat) (hn : x % 9223372036854775808 ≤ 9218868437227405312) : (Ieee.double.read x).isZero = decide (x % 9223372036854775808 = 0) := by
  rcases Nat.lt_or_eq_of_le hn with h | h
  · rw [read_num x h]
    by_cases hz : x % 9223372036854775808 = 0
    · rw [hz]; rfl
    · have : mag (x % 9223372036854775808) ≠ 0 := by unfold mag; split <;> omega
      rw [decide_eq_false hz]
      generalize mag (x % 9223372036854775808) = m at this
      cases m with
      | zero => exact absurd rfl this
      | succ m => rfl
  · rw [read_inf x h, decide_eq_false (by omega)]; rfl
theorem neg_iff (x : Nat) (hx : x < 18446744073709551616) (hn : x % 9223372036854775808 ≤ 9218868437227405312) : (Ieee.double.read x).neg = decide (9223372036854775808 ≤ x) := by
  have e : (x / 9223372036854775808 % 2 == 1) = decide (9223372036854775808 ≤ x) := by
    by_cases hs : x < 9223372036854775808
    · rw [Nat.div_eq_of_lt hs, decide_eq_false (by omega)]; rfl
    · have e' : x / 9223372036854775808 = 1 := by omega
      rw [e', decide_eq_true (by omega)]; rfl
  rcases Nat.lt_or_eq_of_le hn with h | h
  · rw [read_num x h]; exact e
  · rw [read_inf x h]; exact e
theorem notNan (x : Nat) (hn : x % 9223372036854775808 ≤ 9218868437227405312) : (Ieee.double.read x).isNaN = false := by
  rcases Nat.lt_or_eq_of_le hn with h | h
  · rw [read_num x h]; rfl
  · rw [read_inf x h]; rfl

theorem sv_cases (x : Nat) (hx : x < 18446744073709551616) : (x < 9223372036854775808 ∧ sv x = x) ∨ (9223372036854775808 ≤ x ∧ sv x = 9223372036854775808 - (x : Int)) := by
  by_cases h : x < 9223372036854775808
  · exact .inl ⟨h, sv_pos h⟩
  · exact .inr ⟨by omega, sv_neg (by omega) hx⟩

theorem dim_min (x y : Nat) (hx : x < 18446744073709551616) (hy : y < 18446744073709551616) (nx : x % 9223372036854775808 ≤ 9218868437227405312) (ny : y % 9223372036854775808 ≤ 9218868437227405312) :
    dim true .lt x y (FloatKind.f64.decode x) (FloatKind.f64.decode y) = minN x y := by
  show dim true .lt x y (Ieee.double.read x) (Ieee.double.read y) = _
  unfold dim minN
  show _ = (match Ieee.double.order x y with
    | some .lt => x
    | some .gt => y
    | _ => if (Ieee.double.read x).neg then x else y)
  have eo : (Ieee.double.read x).order (Ieee.double.read y) = Ieee.double.order x y := rfl
  have ei : FloatKind.f64.encode (.infinity true) = 18442240474082181120 := by decide
  rw [isInf_iff x hx nx, isInf_iff y hy ny, notNan x nx, notNan y ny, isZero_iff x nx, isZero_iff y ny, neg_iff x hx nx, eo, order_sv x y nx ny, ei]
  simp only [Bool.or_self, Bool.false_eq_true, if_false, if_true, Bool.or_eq_true, Bool.and_eq_true, decide_eq_true_eq, beq_iff_eq, Option.some.injEq, cmp_lt]
  have cx := sv_cases x hx
  have cy := sv_cases y hy
  cases hc : compare (sv x) (sv y)
  · have := cmp_lt.1 hc
    simp only
    split
    · omega
    · split
      · split <;> omega
      · first | rfl | (rw [if_pos this])
  · have := cmp_eq.1 hc
    simp only
    split
    · split <;> omega
    · split
      · split <;> (first | rfl | (split <;> omega))
      · split <;> (first | omega | (split <;> omega))
  · have := cmp_gt.1 hc
    simp only
    split
    · omega
    · split
      · split <;> omega
      · first | rfl | (rw [if_neg (by omega)])
theorem dim_max (x y : Nat) (hx : x < 18446744073709551616) (hy : y < 18446744073709551616) (nx : x % 9223372036854775808 ≤ 9218868437227405312) (ny : y % 9223372036854775808 ≤ 9218868437227405312) :
    dim false .gt x y (FloatKind.f64.decode x) (FloatKind.f64.decode y) = maxN x y := by
  show dim false .gt x y (Ieee.double.read x) (Ieee.double.read y) = _
  unfold dim maxN
  show _ = (match Ieee.double.order x y with
    | some .lt => y
    | some .gt => x
    | _ => if (Ieee.double.read x).neg then y else x)
  have eo : (Ieee.double.read x).order (Ieee.double.read y) = Ieee.double.order x y := rfl
  have ei : FloatKind.f64.encode (.infinity false) = 9218868437227405312 := by decide
  rw [isInf_iff x hx nx, isInf_iff y hy ny, notNan x nx, notNan y ny, isZero_iff x nx, isZero_iff y ny, neg_iff x hx nx, eo, order_sv x y nx ny, ei]
  simp only [Bool.or_self, Bool.false_eq_true, if_false, Bool.or_eq_true, Bool.and_eq_true, decide_eq_true_eq, beq_iff_eq, Option.some.injEq, cmp_gt]
  have cx := sv_cases x hx
  have cy := sv_cases y hy
  cases hc : compare (sv x) (sv y)
  · have := cmp_lt.1 hc
    simp only
    split
    · omega
    · split
      · split <;> omega
      · first | rfl | (rw [if_neg (by omega)])
  · have := cmp_eq.1 hc
    simp only
    split
    · split <;> omega
    · split
      · split <;> (first | omega | (split <;> first | omega | (simp_all; done) | (simp_all; omega)))
      · split <;> (first | omega | (split <;> omega))
  · have := cmp_gt.1 hc
    simp only
    split
    · omega
    · split
      · split <;> omega
      · first | rfl | (rw [if_pos this])

theorem mmin_any (x y : Nat) (hx : x < 18446744073709551616) (hy : y < 18446744073709551616) (nx : x % 9223372036854775808 ≤ 9218868437227405312) (ny : y % 9223372036854775808 ≤ 9218868437227405312) (w : World) :
    Calls Try.prog 23 #[.float .f64 x, .float .f64 y] w fun e w' => e = .returned (.float .f64 (minN x y)) ∧ w' = w := by
  have h : ∀ w, (callFunc 33 #[.float .f64 x, .float .f64 y]).run Try.prog w = .ok (.value (.float .f64 (minN x y))) w := fun w => by
    rw [arch_min, dim_min x y hx hy nx ny]
  go_enter Try.func23, Try.ntmps23
  go_wp2_with (simp only [h])
  go_ret
  exact ⟨rfl, rfl⟩
theorem mmax_any (x y : Nat) (hx : x < 18446744073709551616) (hy : y < 18446744073709551616) (nx : x % 9223372036854775808 ≤ 9218868437227405312) (ny : y % 9223372036854775808 ≤ 9218868437227405312) (w : World) :
    Calls Try.prog 24 #[.float .f64 x, .float .f64 y] w fun e w' => e = .returned (.float .f64 (maxN x y)) ∧ w' = w := by
  have h : ∀ w, (callFunc 35 #[.float .f64 x, .float .f64 y]).run Try.prog w = .ok (.value (.float .f64 (maxN x y))) w := fun w => by
    rw [arch_max, dim_max x y hx hy nx ny]
  go_enter Try.func24, Try.ntmps24
  go_wp2_with (simp only [h])
  go_ret
  exact ⟨rfl, rfl⟩
end Go.Proofs.Ytajdmihbhpbofaa
