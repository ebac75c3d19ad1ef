/- The walks of package axis at whole numbers: what Parts, Flat, Place and Step answer for places, any width and any number of slots. No conditions. -/
import Derived.Test.YtlldfogojfckmaaProg
import Derived.WalkKit
import Derived.DataShut
import Derived.WalkLawsBesides
import Derived.Lib.Hide
import Derived.Deep.QuietTactic
import Derived.BigQuiet
import Derived.Below
import Derived.Deep.Draws
import Derived.Outline
namespace Go.Proofs.Ytlldfogojfckmaa.Ax
open Go.RowKit

/-- The float that a whole number is. -/
abbrev fl (n : Int) : Nat := floatOfInt .f64 n

theorem nat_ge : ∀ n : Nat, n < 24 → (FloatKind.f64.format.order (fl n) 0 == some .gt || FloatKind.f64.format.order (fl n) 0 == some .eq) = true := by decide +kernel
theorem nat_lt24 : ∀ n : Nat, n < 24 → (FloatKind.f64.format.order (fl n) (fl 24) == some .lt) = true := by decide +kernel
theorem nat_lt16 : ∀ n : Nat, n < 16 → (FloatKind.f64.format.order (fl n) (fl 16) == some .lt) = true := by decide +kernel
theorem nat_int : ∀ n : Nat, n < 24 → floatToIntVal .f64 (fl n) .i64 = some (n : Int) := by decide +kernel
theorem nat_self : ∀ n : Nat, n < 24 → (FloatKind.f64.format.order (fl n) (fl n) == some .eq) = true := by decide +kernel

theorem nat_of {x m : Int} (h0 : 0 ≤ x) (h1 : x < m) : ∃ n : Nat, x = (n : Int) ∧ (n : Int) < m := by
  obtain ⟨n, rfl⟩ := Int.eq_ofNat_of_zero_le h0
  exact ⟨n, rfl, h1⟩
theorem fl_ge {x : Int} (h0 : 0 ≤ x) (h1 : x < 24) : (FloatKind.f64.format.order (fl x) 0 == some .gt || FloatKind.f64.format.order (fl x) 0 == some .eq) = true := by
  obtain ⟨n, rfl, h⟩ := nat_of h0 h1
  exact nat_ge n (by omega)
theorem fl_lt24 {x : Int} (h0 : 0 ≤ x) (h1 : x < 24) : (FloatKind.f64.format.order (fl x) (fl 24) == some .lt) = true := by
  obtain ⟨n, rfl, h⟩ := nat_of h0 h1
  exact nat_lt24 n (by omega)
theorem fl_lt16 {x : Int} (h0 : 0 ≤ x) (h1 : x < 16) : (FloatKind.f64.format.order (fl x) (fl 16) == some .lt) = true := by
  obtain ⟨n, rfl, h⟩ := nat_of h0 h1
  exact nat_lt16 n (by omega)
theorem fl_int {x : Int} (h0 : 0 ≤ x) (h1 : x < 24) : floatToIntVal .f64 (fl x) .i64 = some x := by
  obtain ⟨n, rfl, h⟩ := nat_of h0 h1
  exact nat_int n (by omega)
theorem fl_self {x : Int} (h0 : 0 ≤ x) (h1 : x < 24) : (FloatKind.f64.format.order (fl x) (fl x) == some .eq) = true := by
  obtain ⟨n, rfl, h⟩ := nat_of h0 h1
  exact nat_self n (by omega)
theorem fl_3 : fl 3 = 4613937818241073152 := by decide +kernel
theorem fl_2 : fl 2 = 4611686018427387904 := by decide +kernel

theorem within24 (x : Int) (h0 : 0 ≤ x) (h1 : x < 24) (w : World) : Calls Try.prog 11 #[.float .f64 (fl x), .int .i64 24] w fun e w' => e = .returned (.bool true) ∧ w = w' := by
  have g1 := fl_ge h0 h1
  have g2 := fl_lt24 h0 h1
  have g3 : ∀ w : World, (convert 24 3 (.float .f64 (fl x))).run Try.prog w = .ok (.int .i64 x) w := fun w => run_convert_float_int w 24 3 .f64 .i64 _ _ (by kernel_rfl) Try.underlying3 (fl_int h0 h1)
  have g4 := fl_self h0 h1
  have u24 := Try.underlying24
  go_enter Try.func11, Try.ntmps11
  go_wp2
  go_ret
  exact ⟨rfl, rfl⟩

theorem within16 (x : Int) (h0 : 0 ≤ x) (h1 : x < 16) (w : World) : Calls Try.prog 11 #[.float .f64 (fl x), .int .i64 16] w fun e w' => e = .returned (.bool true) ∧ w = w' := by
  have g1 := fl_ge (x := x) h0 (by omega)
  have g2 := fl_lt16 h0 h1
  have g3 : ∀ w : World, (convert 24 3 (.float .f64 (fl x))).run Try.prog w = .ok (.int .i64 x) w := fun w => run_convert_float_int w 24 3 .f64 .i64 _ _ (by kernel_rfl) Try.underlying3 (fl_int h0 (by omega))
  have g4 := fl_self (x := x) h0 (by omega)
  have u24 := Try.underlying24
  go_enter Try.func11, Try.ntmps11
  go_wp2
  go_ret
  exact ⟨rfl, rfl⟩

theorem half_any (b : Nat) (g1 : (FloatKind.f64.format.order b 0 == some .gt || FloatKind.f64.format.order b 0 == some .eq) = true) (g2 : (FloatKind.f64.format.order b (fl 24) == some .lt) = true)
    (g5 : floatToIntVal .f64 b .i64 = some 0) (g4 : (FloatKind.f64.format.order (fl 0) b == some .eq) = false) (w : World) : Calls Try.prog 11 #[.float .f64 b, .int .i64 24] w fun e w' => e = .returned (.bool false) ∧ w = w' := by
  have g3 : ∀ w : World, (convert 24 3 (.float .f64 b)).run Try.prog w = .ok (.int .i64 0) w := fun w => run_convert_float_int w 24 3 .f64 .i64 _ _ (by kernel_rfl) Try.underlying3 g5
  clear g5
  have u24 := Try.underlying24
  go_enter Try.func11, Try.ntmps11
  go_wp2
  go_ret
  exact ⟨rfl, rfl⟩

theorem half (w : World) : Calls Try.prog 11 #[.float .f64 4602678819172646912, .int .i64 24] w fun e w' => e = .returned (.bool false) ∧ w = w' :=
  half_any _ (by decide +kernel) (by decide +kernel) (by decide +kernel) (by decide +kernel) w

theorem whole (x y : Int) (h0 : 0 ≤ x) (h1 : x < 24) (k0 : 0 ≤ y) (k1 : y < 16) (w : World) : Calls Try.prog 10 #[.complex .f64 (fl x) (fl y)] w fun e w' => e = .returned (.bool true) ∧ w = w' := by
  have c1 := within24 x h0 h1
  have c2 := within16 y k0 k1
  go_enter Try.func10, Try.ntmps10
  go_wp2_with (first | (go_at_call 11; (with_reducible refine (c1 _).mono ?_); rintro e w' ⟨rfl, rfl⟩) | (go_at_call 11; (with_reducible refine (c2 _).mono ?_); rintro e w' ⟨rfl, rfl⟩))
  go_ret
  exact ⟨rfl, rfl⟩

theorem whole_half (w : World) : Calls Try.prog 10 #[.complex .f64 4602678819172646912 0] w fun e w' => e = .returned (.bool false) ∧ w = w' := by
  go_enter Try.func10, Try.ntmps10
  go_wp2_with (go_at_call 11; refine (half _).mono ?_; rintro e w' ⟨rfl, rfl⟩)
  go_ret
  exact ⟨rfl, rfl⟩

theorem parts (x y : Int) (h0 : 0 ≤ x) (h1 : x < 24) (k0 : 0 ≤ y) (k1 : y < 16) (w : World) : Calls Try.prog 8 #[.complex .f64 (fl x) (fl y)] w fun e w' => e = .returned (.tuple #[.int .i64 x, .int .i64 y, .int .i64 0]) ∧ w = w' := by
  have c1 := whole x y h0 h1 k0 k1
  have g3 : ∀ w : World, (convert 24 3 (.float .f64 (fl x))).run Try.prog w = .ok (.int .i64 x) w := fun w => run_convert_float_int w 24 3 .f64 .i64 _ _ (by kernel_rfl) Try.underlying3 (fl_int h0 h1)
  have g4 : ∀ w : World, (convert 24 3 (.float .f64 (fl y))).run Try.prog w = .ok (.int .i64 y) w := fun w => run_convert_float_int w 24 3 .f64 .i64 _ _ (by kernel_rfl) Try.underlying3 (fl_int k0 (by omega))
  go_enter Try.func8, Try.ntmps8
  go_wp2_with (go_at_call 10; refine (c1 _).mono ?_; rintro e w' ⟨rfl, rfl⟩)
  go_ret3
  exact ⟨rfl, rfl⟩

theorem width (n : Int) (h0 : 1 ≤ n) (h1 : n ≤ 16) (w : World) : Calls Try.prog 9 #[.int .i64 n] w fun e w' => e = .returned (.bool true) ∧ w = w' := by
  have d1 : decide (1 ≤ n) = true := decide_eq_true h0
  have d2 : decide (n ≤ 16) = true := decide_eq_true h1
  go_enter Try.func9, Try.ntmps9
  go_wp2
  go_ret
  exact ⟨rfl, rfl⟩

theorem flat (x y n : Int) (h0 : 0 ≤ x) (h1 : x < 24) (k0 : 0 ≤ y) (k1 : y < n) (n0 : 1 ≤ n) (n1 : n ≤ 16) (w : World) : Calls Try.prog 4 #[.complex .f64 (fl x) (fl y), .int .i64 n] w fun e w' => e = .returned (.tuple #[.int .i64 (x * n + y), .int .i64 0]) ∧ w = w' := by
  have c1 := parts x y h0 h1 k0 (by omega)
  have c2 := width n n0 n1
  have m : 0 ≤ x * n ∧ x * n ≤ 24 * 16 := ⟨Int.mul_nonneg h0 (by omega), Int.mul_le_mul (by omega) n1 (by omega) (by omega)⟩
  have m1 := m.1
  have m2 : x * n ≤ 384 := m.2
  clear m
  have d1 : decide (n ≤ y) = false := decide_eq_false (by omega)
  go_enter Try.func4, Try.ntmps4
  go_wp2_with (first | (go_at_call 8; refine (c1 _).mono ?_; rintro e w' ⟨rfl, rfl⟩) | (go_at_call 9; refine (c2 _).mono ?_; rintro e w' ⟨rfl, rfl⟩))
  go_ret2
  exact ⟨rfl, rfl⟩

theorem place_yes (k n : Int) (n0 : 1 ≤ n) (n1 : n ≤ 16) (h0 : 0 ≤ k) (h1 : k < 24 * n) (w : World) : Calls Try.prog 5 #[.int .i64 k, .int .i64 n] w fun e w' => e = .returned (.tuple #[.complex .f64 (fl (k / n)) (fl (k % n)), .int .i64 0]) ∧ ∃ q, w' = w.drewN q := by
  have c2 := width n n0 n1
  have d1 : decide (k < 0) = false := decide_eq_false (by omega)
  have d2 : decide (24 * n ≤ k) = false := decide_eq_false (by omega)
  have u24 := Try.underlying24
  go_enter Try.func5, Try.ntmps5
  go_wp2_with (go_at_call 9; refine (c2 _).mono ?_; rintro e w' ⟨rfl, rfl⟩)
  have q0 : n ≠ 0 := by omega
  have q1 : 0 ≤ k / n := Int.ediv_nonneg h0 (by omega)
  have q2 : k / n ≤ k := Int.ediv_le_self _ h0
  have q3 : 0 ≤ k % n := Int.emod_nonneg _ q0
  have q4 : k % n < n := Int.emod_lt_of_pos _ (by omega)
  go_quiet (fail)
  go_wp2
  go_ret2
  exact ⟨rfl, _, rfl⟩

theorem place_no (k n : Int) (n0 : 1 ≤ n) (n1 : n ≤ 16) (h0 : k < 0 ∨ 24 * n ≤ k) (w : World) : Calls Try.prog 5 #[.int .i64 k, .int .i64 n] w fun e w' => e = .returned (.tuple #[.complex .f64 0 0, .int .i64 5]) ∧ w = w' := by
  have c2 := width n n0 n1
  by_cases h : k < 0
  · have d1 : decide (k < 0) = true := decide_eq_true h
    clear h0
    go_enter Try.func5, Try.ntmps5
    go_wp2_with (go_at_call 9; refine (c2 _).mono ?_; rintro e w' ⟨rfl, rfl⟩)
    go_ret2
    exact ⟨rfl, rfl⟩
  · have d1 : decide (k < 0) = false := decide_eq_false h
    have d2 : decide (24 * n ≤ k) = true := decide_eq_true (by omega)
    clear h0
    go_enter Try.func5, Try.ntmps5
    go_wp2_with (go_at_call 9; refine (c2 _).mono ?_; rintro e w' ⟨rfl, rfl⟩)
    go_ret2
    exact ⟨rfl, rfl⟩

theorem flat_at (x y n f : Int) (hf : x * n + y = f) (h0 : 0 ≤ x) (h1 : x < 24) (k0 : 0 ≤ y) (k1 : y < n) (n0 : 1 ≤ n) (n1 : n ≤ 16) (w : World) : Calls Try.prog 4 #[.complex .f64 (fl x) (fl y), .int .i64 n] w fun e w' => e = .returned (.tuple #[.int .i64 f, .int .i64 0]) ∧ w = w' := by
  rw [← hf]
  exact flat x y n h0 h1 k0 k1 n0 n1 w

theorem flat_bd {x y n : Int} (h0 : 0 ≤ x) (h1 : x < 24) (k0 : 0 ≤ y) (k1 : y < n) : 0 ≤ x * n + y ∧ x * n + y < 24 * n := by
  have a := Int.mul_nonneg h0 (by omega : 0 ≤ n)
  have b : x * n ≤ 23 * n := Int.mul_le_mul_of_nonneg_right (by omega) (by omega)
  omega

theorem step_yes (x y n f k : Int) (hf : x * n + y = f) (h0 : 0 ≤ x) (h1 : x < 24) (k0 : 0 ≤ y) (k1 : y < n) (n0 : 1 ≤ n) (n1 : n ≤ 16) (s0 : 0 ≤ f + k) (s1 : f + k < 24 * n) (w : World) :
    Calls Try.prog 6 #[.complex .f64 (fl x) (fl y), .int .i64 k, .int .i64 n] w fun e w' => e = .returned (.tuple #[.complex .f64 (fl ((f + k) / n)) (fl ((f + k) % n)), .int .i64 0]) ∧ ∃ q, w' = w.drewN q := by
  have bd := flat_bd h0 h1 k0 k1
  rw [hf] at bd
  obtain ⟨f0, f1⟩ := bd
  have c1 := flat_at x y n f hf h0 h1 k0 k1 n0 n1
  have c2 := place_yes (f + k) n n0 n1 s0 s1
  have d1 : decide (k < -(24 * n)) = false := decide_eq_false (by omega)
  have d2 : decide (24 * n < k) = false := decide_eq_false (by omega)
  have e1 : -(24 * n) ≤ k := by omega
  have e2 : k ≤ 24 * n := by omega
  clear hf
  go_enter Try.func6, Try.ntmps6
  go_wp2_with (first | (go_at_call 4; (with_reducible refine (c1 _).mono ?_); rintro e w' ⟨rfl, rfl⟩) | (go_at_call 5; (with_reducible refine (c2 _).mono ?_); rintro e w' ⟨rfl, q, rfl⟩))
  go_ret2
  exact ⟨rfl, _, rfl⟩

theorem step_no (x y n f k : Int) (hf : x * n + y = f) (h0 : 0 ≤ x) (h1 : x < 24) (k0 : 0 ≤ y) (k1 : y < n) (n0 : 1 ≤ n) (n1 : n ≤ 16) (s0 : f + k < 0 ∨ 24 * n ≤ f + k) (w : World) :
    Calls Try.prog 6 #[.complex .f64 (fl x) (fl y), .int .i64 k, .int .i64 n] w fun e w' => e = .returned (.tuple #[.complex .f64 0 0, .int .i64 5]) ∧ ∃ q, w' = w.drewN q := by
  have bd := flat_bd h0 h1 k0 k1
  rw [hf] at bd
  obtain ⟨f0, f1⟩ := bd
  have c1 := flat_at x y n f hf h0 h1 k0 k1 n0 n1
  by_cases g1 : k < -(24 * n)
  · have d1 : decide (k < -(24 * n)) = true := decide_eq_true g1
    clear hf s0
    go_enter Try.func6, Try.ntmps6
    go_wp2_with (go_at_call 4; (with_reducible refine (c1 _).mono ?_); rintro e w' ⟨rfl, rfl⟩)
    go_ret2
    exact ⟨rfl, 0, rfl⟩
  · have d1 : decide (k < -(24 * n)) = false := decide_eq_false g1
    by_cases g2 : 24 * n < k
    · have d2 : decide (24 * n < k) = true := decide_eq_true g2
      clear hf s0
      go_enter Try.func6, Try.ntmps6
      go_wp2_with (go_at_call 4; (with_reducible refine (c1 _).mono ?_); rintro e w' ⟨rfl, rfl⟩)
      go_ret2
      exact ⟨rfl, 0, rfl⟩
    · have d2 : decide (24 * n < k) = false := decide_eq_false g2
      have c2 := place_no (f + k) n n0 n1 s0
      have e1 : -(24 * n) ≤ k := by omega
      have e2 : k ≤ 24 * n := by omega
      clear hf s0
      go_enter Try.func6, Try.ntmps6
      go_wp2_with (first | (go_at_call 4; (with_reducible refine (c1 _).mono ?_); rintro e w' ⟨rfl, rfl⟩) | (go_at_call 5; (with_reducible refine (c2 _).mono ?_); rintro e w' ⟨rfl, rfl⟩))
      go_ret2
      exact ⟨rfl, 0, rfl⟩

theorem awake (w : World) : Calls Try.prog 7 #[] w fun e w' => e = .returned (.bool true) ∧ ∃ q, w' = w.drewN q := by
  have c1 := flat_at 3 2 5 17 (by decide) (by decide) (by decide) (by decide) (by decide) (by decide) (by decide)
  have c2 := place_yes 17 5 (by decide) (by decide) (by decide) (by decide)
  have c3 := whole 3 2 (by decide) (by decide) (by decide) (by decide)
  have c4 := whole_half
  have hq : (17 : Int) / 5 = 3 := by decide
  have hr : (17 : Int) % 5 = 2 := by decide
  rw [hq, hr] at c2
  have s3 := fl_self (x := 3) (by decide) (by decide)
  have s2 := fl_self (x := 2) (by decide) (by decide)
  rw [fl_3, fl_2] at c1 c2 c3
  rw [fl_3] at s3
  rw [fl_2] at s2
  clear hq hr
  go_enter Try.func7, Try.ntmps7
  go_wp2_with (first | (go_at_call 4; (with_reducible refine (c1 _).mono ?_); rintro e w' ⟨rfl, rfl⟩) | (go_at_call 5; (with_reducible refine (c2 _).mono ?_); rintro e w' ⟨rfl, q, rfl⟩) | (go_at_call 10; (with_reducible refine (c3 _).mono ?_); rintro e w' ⟨rfl, rfl⟩) | (go_at_call 10; (with_reducible refine (c4 _).mono ?_); rintro e w' ⟨rfl, rfl⟩))
  go_ret
  exact ⟨rfl, _, rfl⟩

theorem div_at {s b w f : Int} (hw : 0 < w) (hb : 0 ≤ b) (hb' : b < w) (hf : s * w + b = f) : f / w = s ∧ f % w = b := by
  have e : f = b + w * s := by rw [← hf, Int.mul_comm]; omega
  rw [e]
  exact ⟨by rw [Int.add_mul_ediv_left _ _ (by omega), Int.ediv_eq_zero_of_lt hb hb']; omega, by rw [Int.add_mul_emod_self_left, Int.emod_eq_of_lt hb hb']⟩

theorem back (seg slot width n : Int) (a0 : 0 ≤ seg) (a1 : seg ≤ 255) (b0 : 0 ≤ slot) (b1 : slot ≤ 255) (c0 : 0 ≤ width) (c1 : width ≤ 255) (n0 : -32768 ≤ n) (n1 : n ≤ 32767) (W : World) :
    Calls Try.prog 3 #[.int .u8 seg, .int .u8 slot, .int .u8 width, .int .i16 n] W fun e w' => e = .returned (.bool true) ∧ ∃ q, w' = W.drewN q := by
  obtain ⟨w, hw⟩ : ∃ w, 1 + width % 16 = w := ⟨_, rfl⟩
  obtain ⟨s, hs⟩ : ∃ s, seg % 24 = s := ⟨_, rfl⟩
  obtain ⟨b, hb⟩ : ∃ b, slot % w = b := ⟨_, rfl⟩
  obtain ⟨f, hf⟩ : ∃ f, s * w + b = f := ⟨_, rfl⟩
  have w0 : 1 ≤ w := by omega
  have w1 : w ≤ 16 := by omega
  have s0 : 0 ≤ s := by omega
  have s1 : s < 24 := by omega
  have t0 : 0 ≤ b := by rw [← hb]; exact Int.emod_nonneg _ (by omega)
  have t1 : b < w := by rw [← hb]; exact Int.emod_lt_of_pos _ (by omega)
  have bd := flat_bd s0 s1 t0 t1
  rw [hf] at bd
  obtain ⟨f0, f1⟩ := bd
  obtain ⟨dv, md⟩ := div_at (by omega) t0 t1 hf
  have k1 := flat_at s b w f hf s0 s1 t0 t1 w0 w1
  have k2 := place_yes f w w0 w1 f0 f1
  rw [dv, md] at k2
  have k4 := awake
  have o1 := fl_self s0 s1
  have o2 := fl_self (x := b) t0 (by omega)
  have m0 : 0 ≤ s * w := Int.mul_nonneg s0 (by omega)
  have m1 : s * w ≤ 384 := by omega
  by_cases g : 0 ≤ f + n ∧ f + n < 24 * w
  · obtain ⟨g0, g1⟩ := g
    have k3 := step_yes s b w f n hf s0 s1 t0 t1 w0 w1 g0 g1
    obtain ⟨u, hu⟩ : ∃ u, (f + n) / w = u := ⟨_, rfl⟩
    obtain ⟨v, hv⟩ : ∃ v, (f + n) % w = v := ⟨_, rfl⟩
    have e1 : u * w + v = f + n := by rw [← hu, ← hv]; exact Int.ediv_mul_add_emod (f + n) w
    have u0 : 0 ≤ u := by rw [← hu]; exact Int.ediv_nonneg g0 (by omega)
    have u1 : u < 24 := by rw [← hu]; exact Int.ediv_lt_of_lt_mul (by omega) g1
    have v0 : 0 ≤ v := by rw [← hv]; exact Int.emod_nonneg _ (by omega)
    have v1 : v < w := by rw [← hv]; exact Int.emod_lt_of_pos _ (by omega)
    have k5 := step_yes u v w (f + n) (-n) e1 u0 u1 v0 v1 w0 w1 (by omega) (by omega)
    rw [show f + n + -n = f by omega, dv, md] at k5
    rw [hu, hv] at k3
    clear hu hv e1 dv md
    go_enter Try.func3, Try.ntmps3
    go_wp2_with (first | (go_at_call 4; (with_reducible refine (k1 _).mono ?_); rintro e w' ⟨rfl, rfl⟩) | (go_at_call 5; (with_reducible refine (k2 _).mono ?_); rintro e w' ⟨rfl, q1, rfl⟩) | (go_at_call 6; (with_reducible refine (k3 _).mono ?_); rintro e w' ⟨rfl, q2, rfl⟩) | (go_at_call 6; (with_reducible refine (k5 _).mono ?_); rintro e w' ⟨rfl, q3, rfl⟩) | (go_at_call 7; (with_reducible refine (k4 _).mono ?_); rintro e w' ⟨rfl, q4, rfl⟩))
    go_ret
    exact ⟨rfl, _, rfl⟩
  · have k3 := step_no s b w f n hf s0 s1 t0 t1 w0 w1 (by omega)
    clear dv md
    by_cases g1 : f + n < 0
    · have d1 : decide (f + n < 0) = true := decide_eq_true g1
      clear g
      go_enter Try.func3, Try.ntmps3
      go_wp2_with (first | (go_at_call 4; (with_reducible refine (k1 _).mono ?_); rintro e w' ⟨rfl, rfl⟩) | (go_at_call 5; (with_reducible refine (k2 _).mono ?_); rintro e w' ⟨rfl, q1, rfl⟩) | (go_at_call 6; (with_reducible refine (k3 _).mono ?_); rintro e w' ⟨rfl, q2, rfl⟩) | (go_at_call 7; (with_reducible refine (k4 _).mono ?_); rintro e w' ⟨rfl, q4, rfl⟩))
      go_ret
      exact ⟨rfl, _, rfl⟩
    · have d1 : decide (f + n < 0) = false := decide_eq_false g1
      have d2 : decide (24 * w ≤ f + n) = true := decide_eq_true (by omega)
      clear g
      go_enter Try.func3, Try.ntmps3
      go_wp2_with (first | (go_at_call 4; (with_reducible refine (k1 _).mono ?_); rintro e w' ⟨rfl, rfl⟩) | (go_at_call 5; (with_reducible refine (k2 _).mono ?_); rintro e w' ⟨rfl, q1, rfl⟩) | (go_at_call 6; (with_reducible refine (k3 _).mono ?_); rintro e w' ⟨rfl, q2, rfl⟩) | (go_at_call 7; (with_reducible refine (k4 _).mono ?_); rintro e w' ⟨rfl, q4, rfl⟩))
      go_ret
      exact ⟨rfl, _, rfl⟩

theorem in8 {n : Int} (h : (Lit.int .u8 n).wf = true) : 0 ≤ n ∧ n ≤ 255 := by
  have := (Lit.wf_int_iff .u8 n).1 h
  simpa [IntKind.min, IntKind.max, IntKind.signed, IntKind.bits] using this
theorem in16 {n : Int} (h : (Lit.int .i16 n).wf = true) : -32768 ≤ n ∧ n ≤ 32767 := by
  have := (Lit.wf_int_iff .i16 n).1 h
  simpa [IntKind.min, IntKind.max, IntKind.signed, IntKind.bits] using this

theorem below_drewN (W : World) (q : Nat) : Below W.heap.size W (W.drewN q) := ⟨rfl, rfl, rfl, Nat.le_refl _, fun _ _ => rfl⟩

theorem calls (_ : Nat) (seg slot width n : Int) (r : Bool) (W : World) (h : r = true ∧ (Lit.int .u8 seg).wf = true ∧ (Lit.int .u8 slot).wf = true ∧ (Lit.int .u8 width).wf = true ∧ (Lit.int .i16 n).wf = true) :
    Calls Try.prog 3 #[.int .u8 seg, .int .u8 slot, .int .u8 width, .int .i16 n] W fun e w' => e = .returned (.bool r) ∧ Below W.heap.size W w' := by
  obtain ⟨rfl, h0, h1, h2, h3⟩ := h
  have a := in8 h0
  have b := in8 h1
  have c := in8 h2
  have d := in16 h3
  refine (back seg slot width n a.1 a.2 b.1 b.2 c.1 c.2 d.1 d.2 W).mono ?_
  rintro e w' ⟨rfl, q, rfl⟩
  exact ⟨rfl, below_drewN W q⟩

end Go.Proofs.Ytlldfogojfckmaa.Ax
