/- The walk of TopPoints: it returns true and only adds to memory. Conditions: both words are below 2^64. -/
import Derived.Test.YtajdmihbhpbofaaTpG
import Derived.Deep.CutRange
import Derived.Deep.Cut
import Derived.Deep.CutBlock
namespace Go.Proofs.Ytajdmihbhpbofaa
open Go.ChangeShapes Go.WideShapes Go.ChangeAt Go.RowKit

theorem cls_eq (x : Nat) (hx : x < 18446744073709551616) : cls x =
    if FloatKind.f64.format.order x x != some .eq then 4
    else if FloatKind.f64.format.order (x % 9223372036854775808) 9218868437227405311 == some .gt then 3
    else if FloatKind.f64.format.order x 0 == some .eq then 0
    else if FloatKind.f64.format.order (x % 9223372036854775808) 4503599627370496 == some .lt then 1
    else 2 := by
  have e1 : (FloatKind.f64.format.order (x % 9223372036854775808) (x % 9223372036854775808) != some .eq) = (FloatKind.f64.format.order x x != some .eq) := by
    rw [self_test, self_test, Nat.mod_mod]
  unfold cls
  show (if FloatKind.f64.format.order (x % 9223372036854775808) (x % 9223372036854775808) != some .eq then (4 : Int)
    else if FloatKind.f64.format.order (x % 9223372036854775808) 9218868437227405311 == some .gt then 3
    else if FloatKind.f64.format.order (x % 9223372036854775808) 0 == some .eq then 0
    else if FloatKind.f64.format.order (x % 9223372036854775808) 4503599627370496 == some .lt then 1
    else 2) = _
  rw [e1]
  by_cases hn : x % 9223372036854775808 ≤ 9218868437227405312
  · have e2 : (FloatKind.f64.format.order (x % 9223372036854775808) 0 == some .eq) = (FloatKind.f64.format.order x 0 == some .eq) := by
      rw [zero_test x hx hn, zero_test (x % 9223372036854775808) (by omega) (by omega), Nat.mod_mod]
    rw [e2]
  · have t : (FloatKind.f64.format.order x x != some .eq) = true := by rw [self_test]; exact decide_eq_true (by omega)
    rw [if_pos t, if_pos t]

theorem grown_trans {a b c : World} (h1 : Grown a b) (h2 : Grown b c) : Grown a c :=
  ⟨World.keptBut_trans h1.1 h2.1, fun x => (h2.2.1 x).trans (h1.2.1 x), Nat.le_trans h1.2.2 h2.2.2⟩
theorem key_lt (x : Nat) (hx : x < 18446744073709551616) : keyN x < 18446744073709551616 := by unfold keyN; split <;> omega
theorem fk_key (x : Nat) (hx : x < 18446744073709551616) : fkN (keyN x) = x := by
  unfold fkN keyN; split <;> split <;> omega

theorem key_ne (x y : Nat) (hx : x < 18446744073709551616) (hy : y < 18446744073709551616) (h : ¬x = y) : ¬keyN x = keyN y := by
  unfold keyN; split <;> split <;> omega
theorem lt_self (x : Nat) : (FloatKind.f64.format.order x x == some .lt) = false := by
  by_cases hn : x % 9223372036854775808 ≤ 9218868437227405312
  · rw [lt_iff x x hn hn]; exact decide_eq_false (by omega)
  · exact no_order x x .lt (.inl (by omega))
theorem key_lt_of (x y : Nat) (hx : x < 18446744073709551616) (hy : y < 18446744073709551616) (h : (FloatKind.f64.format.order x y == some .lt) = true) : keyN x < keyN y := by
  by_cases h1 : x % 9223372036854775808 ≤ 9218868437227405312
  · by_cases h2 : y % 9223372036854775808 ≤ 9218868437227405312
    · rw [lt_iff x y h1 h2] at h
      have h := of_decide_eq_true h
      have cx := sv_cases x hx
      have cy := sv_cases y hy
      unfold keyN; split <;> split <;> omega
    · rw [no_order x y .lt (.inr (by omega))] at h; cases h
  · rw [no_order x y .lt (.inl (by omega))] at h; cases h

theorem ge_of_lt (x : Nat) (h : (FloatKind.f64.format.order x 14114281232179134464 == some .lt) = true) :
    (FloatKind.f64.format.order x 14114281232179134464 == some .gt || FloatKind.f64.format.order x 14114281232179134464 == some .eq) = false := by
  rw [beq_iff_eq.1 h]; rfl
theorem ge_of_nlt (x : Nat) (hn : x % 9223372036854775808 ≤ 9218868437227405312) (h : (FloatKind.f64.format.order x 14114281232179134464 == some .lt) = false) :
    (FloatKind.f64.format.order x 14114281232179134464 == some .gt || FloatKind.f64.format.order x 14114281232179134464 == some .eq) = true := by
  rw [lt_iff _ _ hn (by decide)] at h
  rw [gt_iff _ _ hn (by decide), eq_iff _ _ hn (by decide)]
  simp only [decide_eq_false_iff_not, Bool.or_eq_true, decide_eq_true_eq] at h ⊢
  omega

set_option maxRecDepth 100000 in
set_option maxHeartbeats 2000000 in
theorem walk (x y : Nat) (hx : x < 18446744073709551616) (hy : y < 18446744073709551616) (n : Int) (w : World) :
    Calls Try.prog 3 #[.int .u64 x, .int .u64 y, .int .i64 n] w fun e w' => e = .returned (.bool true) ∧ Grown w w' := by
  go_enter Try.func3, Try.ntmps3
  go_upto_block 0 with (simp only [frombits])
  go_cut [9] from 20 (fun v9 w' => v9 = .int .i64 (cls x) ∧ w' = w)
  case first => as_aux_lemma =>
    go_wp2_with (first | (go_at_call 5; refine (isinf0_any _ hx _).mono ?_; rintro e w' ⟨rfl, rfl⟩) | (go_at_call 6; refine (abs_any _ hx _).mono ?_; rintro e w' ⟨rfl, rfl⟩))
    all_goals go_meet
    all_goals refine ⟨?_, rfl⟩
    all_goals rw [cls_eq x hx]
    all_goals simp_all
  case rest => as_aux_lemma =>
    obtain ⟨rfl, rfl⟩ := hcut
    have hkey := fk_key x hx
    go_upto_region 13 with (first
      | (go_at_call 7; refine (class_any _ hx _).mono ?_; rintro e w' ⟨rfl, rfl⟩)
      | (go_at_call 8; refine (less_any _ _ _).mono ?_; rintro e w' ⟨rfl, rfl⟩)
      | (go_at_call 9; refine (equal_any _ _ _).mono ?_; rintro e w' ⟨rfl, rfl⟩)
      | (go_at_call 10; refine (neg_any _ _).mono ?_; rintro e w' ⟨rfl, rfl⟩)
      | (go_at_call 11; refine (fabs_any _ _).mono ?_; rintro e w' ⟨rfl, rfl⟩)
      | (go_at_call 13; refine (key_any _ hx _).mono ?_; rintro e w' ⟨rfl, rfl⟩)
      | (go_at_call 12; refine (fk_any _ (key_lt x hx) _).mono ?_; rintro e w' ⟨rfl, rfl⟩))
    go_cut [106] from 16 (fun v106 w2 => v106 = .bool false ∧ w2 = w')
    case first => as_aux_lemma =>
      by_cases hab : x = y
      · have hl : (FloatKind.f64.format.order x y == some .lt) = false := by rw [hab]; exact lt_self y
        have hne : ((x : Int) != (y : Int)) = false := by rw [hab]; simp
        clear hab
        go_wp2_with (first
          | (go_at_call 14; refine (of_any _ _).mono ?_; rintro e w2 ⟨rfl, rfl⟩)
          | (go_at_call 13; refine (key_any _ (by assumption) _).mono ?_; rintro e w2 ⟨rfl, rfl⟩)
          | (simp only [tobits]))
        all_goals go_meet
        all_goals exact ⟨rfl, rfl⟩
      · have hne : ((x : Int) != (y : Int)) = true := by simp; omega
        have hke : ((keyN x : Int) == (keyN y : Int)) = false := by
          have := key_ne x y hx hy hab
          simp; omega
        clear hab
        by_cases hl : (FloatKind.f64.format.order x y == some .lt) = true
        · have hge : decide (keyN y ≤ keyN x) = false := by
            have := key_lt_of x y hx hy hl
            apply decide_eq_false; omega
          clear hkey
          go_wp2_with (first
            | (go_at_call 14; refine (of_any _ _).mono ?_; rintro e w2 ⟨rfl, rfl⟩)
            | (go_at_call 13; refine (key_any _ (by assumption) _).mono ?_; rintro e w2 ⟨rfl, rfl⟩)
            | (simp only [tobits]))
          all_goals go_meet
          all_goals exact ⟨rfl, rfl⟩
        · have hl' : (FloatKind.f64.format.order x y == some .lt) = false := by simpa using hl
          clear hl
          go_wp2_with (first
            | (go_at_call 14; refine (of_any _ _).mono ?_; rintro e w2 ⟨rfl, rfl⟩)
            | (go_at_call 13; refine (key_any _ (by assumption) _).mono ?_; rintro e w2 ⟨rfl, rfl⟩)
            | (simp only [tobits]))
          all_goals go_meet
          all_goals exact ⟨rfl, rfl⟩
    case rest => as_aux_lemma =>
      obtain ⟨rfl, rfl⟩ := hcut
      clear hkey
      go_upto_region 16 with (go_at_call 16; refine (int_any _ _).mono ?_; rintro e w2 ⟨m, rfl, hw, hm1, hm2⟩)
      have hg : Grown wc w2 := by
        rcases hw with rfl | rfl
        · exact Grown.refl _
        · exact (Grown.refl _).drew
      clear hw
      obtain ⟨fb, hfb⟩ : ∃ fb, fitsB x = fb := ⟨_, rfl⟩
      rw [hfb] at hm1 hm2 ⊢
      go_cut [12] from 16 (fun v12 w3 => v12 = .bool fb ∧ Grown wc w3)
      case first => as_aux_lemma =>
        clear hm1 hm2
        by_cases hn : x % 9223372036854775808 ≤ 9218868437227405312
        · by_cases h1 : (FloatKind.f64.format.order x (trunc x) == some .eq) = true
          · by_cases h2 : (FloatKind.f64.format.order x 14114281232179134464 == some .lt) = true
            · have h2' := ge_of_lt x h2
              go_wp2_with (go_at_call 17; refine (trunc_num_any _ hn _).mono ?_; rintro e w3 ⟨rfl, rfl⟩)
              all_goals go_meet
              have hf : fitsB x = false := by simp only [fitsB, h2]; simp
              exact ⟨by rw [← hfb, hf], hg⟩
            · have h2e : (FloatKind.f64.format.order x 14114281232179134464 == some .lt) = false := by simpa using h2
              have h2' := ge_of_nlt x hn h2e
              go_wp2_with (go_at_call 17; refine (trunc_num_any _ hn _).mono ?_; rintro e w3 ⟨rfl, rfl⟩)
              all_goals go_meet
              have hf : fitsB x = (FloatKind.f64.format.order x 4890909195324358656 == some .lt) := by simp only [fitsB, h1, h2e, decide_eq_true hn]; simp
              exact ⟨by rw [← hfb, hf], hg⟩
          · have h1e : (FloatKind.f64.format.order x (trunc x) == some .eq) = false := by simpa using h1
            go_wp2_with (go_at_call 17; refine (trunc_num_any _ hn _).mono ?_; rintro e w3 ⟨rfl, rfl⟩)
            all_goals go_meet
            have hf : fitsB x = false := by simp only [fitsB, h1e, Bool.and_false, Bool.false_and]
            exact ⟨by rw [← hfb, hf], hg⟩
        · have h1' : ∀ t, (FloatKind.f64.format.order x t == some .eq) = false := fun t => no_order x t .eq (.inl (by omega))
          go_wp2_with (go_at_call 17; refine (trunc_nan_any _ (by omega) _).mono ?_; rintro e w3 ⟨t, rfl, hw⟩; have h1t := h1' t)
          all_goals go_meet
          have hf : fitsB x = false := by simp only [fitsB, decide_eq_false hn, Bool.false_and]
          refine ⟨by rw [← hfb, hf], ?_⟩
          rcases hw with rfl | rfl
          · exact hg
          · exact hg.drew
      case rest => as_aux_lemma =>
        obtain ⟨rfl, hg3⟩ := hcut
        clear hg hfb
        go_upto_region 17 with fail
        go_cut [143] from 16 (fun v143 w5 => v143 = .bool false ∧ w5 = wc)
        case first => as_aux_lemma =>
          by_cases hf : fb = true
          · have ho := hm1 hf
            subst hf
            have ho' : (FloatKind.f64.format.order (floatOfInt .f64 m) x != some .eq) = false := by rw [ho]; rfl
            clear hm1 hm2
            go_wp2
            all_goals go_meet
            all_goals exact ⟨rfl, rfl⟩
          · have hf' : fb = false := by simpa using hf
            obtain rfl := hm2 hf'
            subst hf'
            clear hm1 hm2 hf
            go_wp2
            all_goals go_meet
            all_goals exact ⟨rfl, rfl⟩
        case rest => as_aux_lemma =>
          obtain ⟨rfl, rfl⟩ := hcut
          clear hm1 hm2
          go_upto_block 1 with fail
          go_cut [13] from 16 (fun v13 w6 => v13 = .int .u64 (nextN x : Nat) ∧ w6 = wc)
          case first => as_aux_lemma =>
            by_cases hn : x % 9223372036854775808 ≤ 9218868437227405312
            · have t0 := zero_test x hx hn
              by_cases hz : x % 9223372036854775808 = 0
              · rw [decide_eq_true hz] at t0
                go_wp2
                all_goals go_meet
                have e : nextN x = 1 := by unfold nextN; rw [if_neg (by omega), if_neg (by omega), if_pos hz]
                exact ⟨by rw [e]; rfl, rfl⟩
              · rw [decide_eq_false hz] at t0
                have t1 : (FloatKind.f64.format.order x x == some .eq) = true := by rw [nan_iff]; exact decide_eq_true hn
                have t2 := inf_test x hx hn
                by_cases hi : x = 9218868437227405312
                · have t2' : (FloatKind.f64.format.order x 9218868437227405311 == some .gt) = true := by rw [t2]; exact decide_eq_true hi
                  clear t2
                  have e : nextN x = x := by unfold nextN; rw [if_neg (by omega), if_pos hi]
                  clear hi
                  go_wp2_with (go_at_call 5; refine (isinf1_any _ _).mono ?_; rintro e w7 ⟨rfl, rfl⟩)
                  all_goals go_meet
                  exact ⟨by rw [e], rfl⟩
                · rw [decide_eq_false hi] at t2
                  by_cases hs : x < 9223372036854775808
                  · go_wp2_with (first
                      | (go_at_call 5; refine (isinf1_any _ _).mono ?_; rintro e w7 ⟨rfl, rfl⟩)
                      | (go_at_call 19; refine (inf_any _).mono ?_; rintro e w7 ⟨rfl, rfl⟩)
                      | (go_at_call 18; refine (nextafter_any _ hx hn hi hz _).mono ?_; rw [if_pos hs]; rintro e w7 ⟨rfl, rfl⟩)
                      | (simp only [tobits]))
                    all_goals go_meet
                    have e : nextN x = x + 1 := by unfold nextN; rw [if_neg (by omega), if_neg hi, if_neg hz, if_pos hs]
                    exact ⟨by rw [e] <;> (first | rfl | (congr 1 <;> omega)), rfl⟩
                  · go_wp2_with (first
                      | (go_at_call 5; refine (isinf1_any _ _).mono ?_; rintro e w7 ⟨rfl, rfl⟩)
                      | (go_at_call 19; refine (inf_any _).mono ?_; rintro e w7 ⟨rfl, rfl⟩)
                      | (go_at_call 18; refine (nextafter_any _ hx hn hi hz _).mono ?_; rw [if_neg hs]; rintro e w7 ⟨rfl, rfl⟩)
                      | (simp only [tobits]))
                    all_goals go_meet
                    have e : nextN x = x - 1 := by unfold nextN; rw [if_neg (by omega), if_neg hi, if_neg hz, if_neg hs]
                    exact ⟨by rw [e] <;> (first | rfl | (congr 1 <;> omega)), rfl⟩
            · have t0 := no_order x 0 .eq (.inl (by omega))
              have t1 := no_order x x .eq (.inl (by omega))
              have e : nextN x = x := by unfold nextN; rw [if_pos (by omega)]
              go_wp2
              all_goals go_meet
              exact ⟨by rw [e], rfl⟩
          case rest => as_aux_lemma =>
            obtain ⟨rfl, rfl⟩ := hcut
            by_cases hn : x % 9223372036854775808 ≤ 9218868437227405312
            · have nx : (FloatKind.f64.format.order x x != some .eq) = false := by rw [self_test]; exact decide_eq_false (by omega)
              by_cases hm : y % 9223372036854775808 ≤ 9218868437227405312
              · have ny : (FloatKind.f64.format.order y y != some .eq) = false := by rw [self_test]; exact decide_eq_false (by omega)
                have e : (pickNan x y).2 = false := by unfold pickNan isNan; rw [nx, ny]; rfl
                have ho : FloatKind.f64.format.order x y ≠ none := by
                  show Ieee.double.order x y ≠ none
                  rw [order_sv x y hn hm]; simp
                go_wp2_with (first
                  | (go_at_call 20; refine (next_any _ hx _).mono ?_; rintro e w7 ⟨rfl, rfl⟩)
                  | (go_at_call 21; refine (fmin_num _ _ e ho _).mono ?_; rintro e w7 ⟨rfl, hg7⟩)
                  | (go_at_call 22; refine (fmax_num _ _ e ho _).mono ?_; rintro e w8 ⟨rfl, hg8⟩)
                  | (go_at_call 23; refine (mmin_any _ _ hx hy hn hm _).mono ?_; rintro e w9 ⟨rfl, rfl⟩)
                  | (go_at_call 24; refine (mmax_any _ _ hx hy hn hm _).mono ?_; rintro e w9 ⟨rfl, rfl⟩)
                  | (simp only [tobits]))
                all_goals go_ret
                exact ⟨rfl, grown_trans hg3 (grown_trans hg7 hg8)⟩
              · have ny : (FloatKind.f64.format.order y y != some .eq) = true := by rw [self_test]; exact decide_eq_true (by omega)
                have e : (pickNan x y).2 = true := by unfold pickNan isNan; rw [nx, ny]; rfl
                have e1 : (pickNan x y).1 = Go.bits .or .u64 y 2251799813685248 := by unfold pickNan isNan; rw [nx, ny]; rfl
                go_wp2_with (first
                  | (go_at_call 20; refine (next_any _ hx _).mono ?_; rintro e w7 ⟨rfl, rfl⟩)
                  | (go_at_call 21; refine (fmin_nan _ _ e _).mono ?_; rintro e w7 ⟨rfl, hg7⟩)
                  | (go_at_call 22; refine (fmax_nan _ _ e _).mono ?_; rintro e w8 ⟨rfl, hg8⟩))
                all_goals go_ret
                exact ⟨rfl, grown_trans hg3 (grown_trans hg7 hg8)⟩
            · have nx : (FloatKind.f64.format.order x x != some .eq) = true := by rw [self_test]; exact decide_eq_true (by omega)
              have e : (pickNan x y).2 = true := by unfold pickNan isNan; rw [nx]; rfl
              have e1 : (pickNan x y).1 = Go.bits .or .u64 x 2251799813685248 := by unfold pickNan isNan; rw [nx]; rfl
              go_wp2_with (first
                | (go_at_call 20; refine (next_any _ hx _).mono ?_; rintro e w7 ⟨rfl, rfl⟩)
                | (go_at_call 21; refine (fmin_nan _ _ e _).mono ?_; rintro e w7 ⟨rfl, hg7⟩)
                | (go_at_call 22; refine (fmax_nan _ _ e _).mono ?_; rintro e w8 ⟨rfl, hg8⟩))
              all_goals go_ret
              exact ⟨rfl, grown_trans hg3 (grown_trans hg7 hg8)⟩
end Go.Proofs.Ytajdmihbhpbofaa
