/- Best answers ErrArg to no quotients and to lists of unlike lengths. No conditions. -/
import Derived.DataShut
import Derived.Test.YtnbgljphdkfmpaaRatioNoneW
namespace Go.Proofs.Ytnbgljphdkfmpaa.Pure
open Go.RowKit Go.Proofs.Ytnbgljphdkfmpaa.PRatioNone Go.Proofs.YtnbgljphdkfmpaaW.PrintWords Go.Proofs.YtnbgljphdkfmpaaW.PrintLast

theorem w_id {n : Int} (h0 : -9223372036854775808 ≤ n) (h1 : n ≤ 9223372036854775807) : wrap64 n = n := by
  unfold wrap64
  omega

theorem mulb {a b A B : Int} (ha : 0 ≤ a) (hA : a ≤ A) (hb : 0 ≤ b) (hB : b ≤ B) : 0 ≤ a * b ∧ a * b ≤ A * B :=
  ⟨Int.mul_nonneg ha hb, Int.mul_le_mul hA hB hb (by omega)⟩

def okq (a b : Int) : Prop := 0 ≤ a ∧ a ≤ 1048576 ∧ 1 ≤ b ∧ b ≤ 1048576

theorem quotient_yes {a b : Int} (h : okq a b) : ratio_quotient.f a b = some true := by
  obtain ⟨h1, h2, h3, h4⟩ := h
  unfold ratio_quotient.f
  rw [if_pos h1, if_pos h2, if_pos h3, decide_eq_true h4]

theorem quotient_no {a b : Int} (h : ¬ okq a b) : ratio_quotient.f a b = some false := by
  unfold okq at h
  unfold ratio_quotient.f
  by_cases h1 : a ≥ 0
  · rw [if_pos h1]
    by_cases h2 : a ≤ 1048576
    · rw [if_pos h2]
      by_cases h3 : b ≥ 1
      · rw [if_pos h3, decide_eq_false (by omega)]
      · rw [if_neg h3]
    · rw [if_neg h2]
  · rw [if_neg h1]

def sg (x y : Int) : Int := if x < y then -1 else if x > y then 1 else 0

theorem sg_lt {x y : Int} (h : x < y) : sg x y = -1 := by unfold sg; rw [if_pos h]
theorem sg_gt {x y : Int} (h : y < x) : sg x y = 1 := by unfold sg; rw [if_neg (by omega), if_pos h]
theorem sg_eq {x y : Int} (h : x = y) : sg x y = 0 := by unfold sg; rw [if_neg (by omega), if_neg (by omega)]
theorem sg_flip (x y : Int) : sg x y = - sg y x := by
  by_cases h : x < y
  · rw [sg_lt h, sg_gt h]
  · by_cases h' : y < x
    · rw [sg_gt h', sg_lt h']; rfl
    · rw [sg_eq (by omega), sg_eq (by omega)]; rfl
theorem sg_pos {x y : Int} : 0 < sg x y ↔ y < x := by
  unfold sg
  split
  · omega
  · split <;> omega
theorem sg_neg {x y : Int} : sg x y < 0 ↔ x < y := by
  unfold sg
  split
  · omega
  · split <;> omega
theorem sg_zero {x y : Int} : sg x y = 0 ↔ x = y := by
  unfold sg
  split
  · omega
  · split <;> omega
theorem sg_bd (x y : Int) : -1 ≤ sg x y ∧ sg x y ≤ 1 := by
  unfold sg
  split
  · omega
  · split <;> omega

theorem cmp_eq (x y : Int) : cmp_Compare_int.f x y = some (sg x y) := by
  unfold cmp_Compare_int.f cmp_isNaN_int.f sg
  simp only [bne_self_eq_false, Option.bind_some, Bool.false_eq_true, if_false]
  by_cases h : x < y
  · rw [if_pos h, if_pos h]
  · rw [if_neg h, if_neg h]
    by_cases h' : x > y
    · rw [if_pos h', if_pos h']
    · rw [if_neg h', if_neg h']

theorem compare_eq {a b c d : Int} (h : okq a b) (k : okq c d) : ratio_compare.f a b c d = some (sg (a * d) (c * b)) := by
  unfold okq at h k
  have h1 := mulb h.1 h.2.1 (by omega : (0 : Int) ≤ d) k.2.2.2
  have h2 := mulb k.1 k.2.1 (by omega : (0 : Int) ≤ b) h.2.2.2
  unfold ratio_compare.f
  rw [w_id (by omega) (by omega), w_id (by omega) (by omega), cmp_eq]
  rfl

theorem Compare_yes {a b c d : Int} (h : okq a b) (k : okq c d) : ratio_Compare.f a b c d = some (sg (a * d) (c * b), 0) := by
  unfold ratio_Compare.f
  simp only [quotient_yes h, quotient_yes k, compare_eq h k, Option.bind_some, if_true]

theorem Compare_no {a b c d : Int} (h : ¬ (okq a b ∧ okq c d)) : ratio_Compare.f a b c d = some (0, 1) := by
  unfold ratio_Compare.f
  by_cases h1 : okq a b
  · have h2 : ¬ okq c d := fun k => h ⟨h1, k⟩
    simp only [quotient_yes h1, quotient_no h2, Option.bind_some, if_true, Bool.false_eq_true, if_false]
  · simp only [quotient_no h1, Option.bind_some, Bool.false_eq_true, if_false]

theorem awake_ev : Ev stopcocklaw02_awake.f true := Ev.of stopcocklaw02_awake.mono (k := 12) (by decide +kernel)

theorem best_unlike (k : Nat) (xs ys : List Int) (h : xs.length ≠ ys.length) : ratio_Best.f (k + 1) xs ys = some (0, 1) := by
  unfold ratio_Best.f
  rw [if_neg (by omega)]
  simp only [ratio_Best.j0, if_true]

theorem best_nil (k : Nat) : ratio_Best.f (k + 1) [] [] = some (0, 1) := by
  unfold ratio_Best.f
  simp only [ratio_Best.j0, List.length_nil, if_true, Int.ofNat_zero]

theorem RatioNone : stopcocklaw02_RatioNone.Pure := by
  intro l hl hl8 _
  obtain ⟨K, hK⟩ := awake_ev
  have hA := hK (K + 1) (by omega)
  refine ⟨K + 1, ?_⟩
  unfold stopcocklaw02_RatioNone.f
  by_cases h : (l.length : Int) > 1000
  · rw [if_pos h, if_pos (by omega), best_nil]
    simp only [Option.bind_some, List.nil_append, List.length_nil, Nat.zero_add]
    have h1 : (l.take 1000).length ≤ 1000 := List.length_take_le _ _
    rw [if_pos (by omega), if_pos (by omega), best_unlike _ _ _ (by rw [List.length_append]; simp), hA]
    simp
  · rw [if_neg h, best_nil]
    simp only [Option.bind_some, List.nil_append, List.length_nil, Nat.zero_add]
    rw [if_pos (by omega), if_pos (by omega), best_unlike _ _ _ (by rw [List.length_append]; simp), hA]
    simp

end Go.Proofs.Ytnbgljphdkfmpaa.Pure
