/- Walks of float.Class and of math.Trunc. Conditions: the words are below 2^64. -/
import Derived.Test.YtajdmihbhpbofaaTpC
namespace Go.Proofs.Ytajdmihbhpbofaa
open Go.ChangeShapes Go.WideShapes Go.ChangeAt Go.RowKit

/-! ### Classes -/
def cls (x : Nat) : Int :=
  if Ieee.double.order (x % 9223372036854775808) (x % 9223372036854775808) != some .eq then 4
  else if Ieee.double.order (x % 9223372036854775808) 9218868437227405311 == some .gt then 3
  else if Ieee.double.order (x % 9223372036854775808) 0 == some .eq then 0
  else if Ieee.double.order (x % 9223372036854775808) 4503599627370496 == some .lt then 1
  else 2
theorem class_any (x : Nat) (hx : x < 18446744073709551616) (w : World) : Calls Try.prog 7 #[.int .u64 x] w fun e w' => e = .returned (.int .i64 (cls x)) ∧ w' = w := by
  have hm : x % 9223372036854775808 % 9223372036854775808 = x % 9223372036854775808 := Nat.mod_mod _ _
  have e0 : FloatKind.f64.format = Ieee.double := rfl
  go_enter Try.func7, Try.ntmps7
  go_wp2_with (first | (go_call (number_any _ _) as e w' ⟨rfl, rfl⟩) | (go_call (abs_any _ hx _) as e w' ⟨rfl, rfl⟩) | (go_at_call 5; refine (isinf0_any _ (by omega) _).mono ?_; rintro e w' ⟨rfl, rfl⟩; simp only [hm]))
  all_goals go_ret
  all_goals (refine ⟨?_, rfl⟩)
  all_goals (unfold cls; rw [e0] at *)
  all_goals simp_all

/-! ### Trunc -/
noncomputable def ti (x : Nat) : Ieee.Datum → Sem Value
  | .nan s t =>
      if FloatKind.f64.format.quiet t = t then pure (.float .f64 x) else do
      let kept ← choose (.extern "math.Floor,Ceil,Trunc,RoundToEven.signallingNaN kept" 2)
      pure (.float .f64 (if kept == 1 then x else FloatKind.f64.encode (.nan s (FloatKind.f64.format.quiet t))))
  | d => pure (.float .f64 (FloatKind.f64.encode (d.integral .zero)))
theorem ti_eq (x : Nat) : Extern.MathFloor.toIntegral "math.archTrunc" .zero #[.float .f64 x] = ti x (Ieee.double.read x) := by
  show ti x (Ieee.double.read x) = _
  rfl
theorem trunc_num_any (x : Nat) (hn : x % 9223372036854775808 ≤ 9218868437227405312) (w : World) : Calls Try.prog 17 #[.float .f64 x] w fun e w' => e = .returned (.float .f64 (trunc x)) ∧ w' = w := by
  have h : (callFunc 26 #[.float .f64 x]).run Try.prog w = .ok (.value (.float .f64 (trunc x))) w := by
    rw [run_callFunc_extern Try.func26 (by kernel_rfl) (by kernel_rfl) (by kernel_rfl) (e := Extern.MathFloor.toIntegral "math.archTrunc" .zero) (by kernel_rfl)]
    have : (Extern.MathFloor.toIntegral "math.archTrunc" .zero #[.float .f64 x]).run Try.prog w = .ok (.float .f64 (trunc x)) w := by
      rw [ti_eq]
      unfold trunc
      rcases Nat.lt_or_eq_of_le hn with hl | he
      · rw [read_num x hl]; rfl
      · rw [read_inf x he]; rfl
    rw [this]; rfl
  go_enter Try.func17, Try.ntmps17
  go_wp2_with (simp only [h])
  go_ret
  exact ⟨rfl, rfl⟩
theorem trunc_nan_any (x : Nat) (hn : 9218868437227405312 < x % 9223372036854775808) (w : World) : Calls Try.prog 17 #[.float .f64 x] w fun e w' => ∃ t : Nat, e = .returned (.float .f64 t) ∧ (w' = w ∨ w' = w.drew) := by
  have h : ∃ t : Nat, ∃ w', (w' = w ∨ w' = w.drew) ∧ (callFunc 26 #[.float .f64 x]).run Try.prog w = .ok (.value (.float .f64 t)) w' := by
    rw [run_callFunc_extern Try.func26 (by kernel_rfl) (by kernel_rfl) (by kernel_rfl) (e := Extern.MathFloor.toIntegral "math.archTrunc" .zero) (by kernel_rfl)]
    have : ∃ t : Nat, ∃ w', (w' = w ∨ w' = w.drew) ∧ (Extern.MathFloor.toIntegral "math.archTrunc" .zero #[.float .f64 x]).run Try.prog w = .ok (.float .f64 t) w' := by
      rw [ti_eq, read_nan x hn]
      simp only [ti]
      split
      · exact ⟨x, w, .inl rfl, rfl⟩
      · have hr : ∀ (q : Question) (f : Nat → Nat), ∃ t w', (w' = w ∨ w' = w.drew) ∧ (do let kept ← choose q; pure (Value.float .f64 (f kept)) : Sem Value).run Try.prog w = .ok (.float .f64 t) w' := by
          intro q f
          by_cases hq : q.forced
          · exact ⟨_, w, .inl rfl, by simp [hq]; rfl⟩
          · exact ⟨_, w.drew, .inr rfl, by simp [hq]; rfl⟩
        exact hr (.extern "math.Floor,Ceil,Trunc,RoundToEven.signallingNaN kept" 2) (fun kept => if kept == 1 then x else FloatKind.f64.encode (.nan (x / 9223372036854775808 % 2 == 1) (FloatKind.f64.format.quiet (x % 9223372036854775808 - 9218868437227405312))))
    obtain ⟨t, w', hw, e⟩ := this
    exact ⟨t, w', hw, by rw [e]; rfl⟩
  obtain ⟨t, w', hw, h⟩ := h
  go_enter Try.func17, Try.ntmps17
  go_wp2_with (simp only [h])
  go_ret
  exact ⟨t, rfl, hw⟩
end Go.Proofs.Ytajdmihbhpbofaa
