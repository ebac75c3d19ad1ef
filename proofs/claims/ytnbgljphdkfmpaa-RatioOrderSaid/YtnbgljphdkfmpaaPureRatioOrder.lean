/- For any six numbers the comparison of quotients turns round with its arguments and is transitive. No conditions. -/
import Derived.DataShut
import Derived.Test.YtnbgljphdkfmpaaPRatioOrderx2
namespace Go.Proofs.Ytnbgljphdkfmpaa.Pure
open Go.RowKit Go.Proofs.Ytnbgljphdkfmpaa.PRatioOrder Go.Proofs.YtnbgljphdkfmpaaW.PrintWords Go.Proofs.YtnbgljphdkfmpaaW.PrintLast

theorem w_id {n : Int} (h0 : -9223372036854775808 ≤ n) (h1 : n ≤ 9223372036854775807) : wrap64 n = n := by
  unfold wrap64
  omega

theorem mulb {a b A B : Int} (ha : 0 ≤ a) (hA : a ≤ A) (hb : 0 ≤ b) (hB : b ≤ B) : 0 ≤ a * b ∧ a * b ≤ A * B :=
  ⟨Int.mul_nonneg ha hb, Int.mul_le_mul hA hB hb (by omega)⟩

def okq (a b : Int) : Prop := 0 ≤ a ∧ a ≤ 1048576 ∧ 1 ≤ b ∧ b ≤ 1048576

theorem quotient_yes {a b : Int} (h : okq a b) : ratio_quotient.f a b = some true := by
  obtain ⟨h1, h2, h3, h4⟩ := h
  unfold ratio_quotient.f
  rw [if_pos h1, if_pos h2, if_pos h3, decide_eq_true h4]

theorem quotient_no {a b : Int} (h : ¬ okq a b) : ratio_quotient.f a b = some false := by
  unfold okq at h
  unfold ratio_quotient.f
  by_cases h1 : a ≥ 0
  · rw [if_pos h1]
    by_cases h2 : a ≤ 1048576
    · rw [if_pos h2]
      by_cases h3 : b ≥ 1
      · rw [if_pos h3, decide_eq_false (by omega)]
      · rw [if_neg h3]
    · rw [if_neg h2]
  · rw [if_neg h1]

def sg (x y : Int) : Int := if x < y then -1 else if x > y then 1 else 0

theorem sg_lt {x y : Int} (h : x < y) : sg x y = -1 := by unfold sg; rw [if_pos h]
theorem sg_gt {x y : Int} (h : y < x) : sg x y = 1 := by unfold sg; rw [if_neg (by omega), if_pos h]
theorem sg_eq {x y : Int} (h : x = y) : sg x y = 0 := by unfold sg; rw [if_neg (by omega), if_neg (by omega)]
theorem sg_flip (x y : Int) : sg x y = - sg y x := by
  by_cases h : x < y
  · rw [sg_lt h, sg_gt h]
  · by_cases h' : y < x
    · rw [sg_gt h', sg_lt h']; rfl
    · rw [sg_eq (by omega), sg_eq (by omega)]; rfl
theorem sg_pos {x y : Int} : 0 < sg x y ↔ y < x := by
  unfold sg
  split
  · omega
  · split <;> omega
theorem sg_neg {x y : Int} : sg x y < 0 ↔ x < y := by
  unfold sg
  split
  · omega
  · split <;> omega
theorem sg_zero {x y : Int} : sg x y = 0 ↔ x = y := by
  unfold sg
  split
  · omega
  · split <;> omega
theorem sg_bd (x y : Int) : -1 ≤ sg x y ∧ sg x y ≤ 1 := by
  unfold sg
  split
  · omega
  · split <;> omega

theorem cmp_eq (x y : Int) : cmp_Compare_int.f x y = some (sg x y) := by
  unfold cmp_Compare_int.f cmp_isNaN_int.f sg
  simp only [bne_self_eq_false, Option.bind_some, Bool.false_eq_true, if_false]
  by_cases h : x < y
  · rw [if_pos h, if_pos h]
  · rw [if_neg h, if_neg h]
    by_cases h' : x > y
    · rw [if_pos h', if_pos h']
    · rw [if_neg h', if_neg h']

theorem compare_eq {a b c d : Int} (h : okq a b) (k : okq c d) : ratio_compare.f a b c d = some (sg (a * d) (c * b)) := by
  unfold okq at h k
  have h1 := mulb h.1 h.2.1 (by omega : (0 : Int) ≤ d) k.2.2.2
  have h2 := mulb k.1 k.2.1 (by omega : (0 : Int) ≤ b) h.2.2.2
  unfold ratio_compare.f
  rw [w_id (by omega) (by omega), w_id (by omega) (by omega), cmp_eq]
  rfl

theorem Compare_yes {a b c d : Int} (h : okq a b) (k : okq c d) : ratio_Compare.f a b c d = some (sg (a * d) (c * b), 0) := by
  unfold ratio_Compare.f
  simp only [quotient_yes h, quotient_yes k, compare_eq h k, Option.bind_some, if_true]

theorem Compare_no {a b c d : Int} (h : ¬ (okq a b ∧ okq c d)) : ratio_Compare.f a b c d = some (0, 1) := by
  unfold ratio_Compare.f
  by_cases h1 : okq a b
  · have h2 : ¬ okq c d := fun k => h ⟨h1, k⟩
    simp only [quotient_yes h1, quotient_no h2, Option.bind_some, if_true, Bool.false_eq_true, if_false]
  · simp only [quotient_no h1, Option.bind_some, Bool.false_eq_true, if_false]

theorem awake_ev : Ev stopcocklaw02_awake.f true := Ev.of stopcocklaw02_awake.mono (k := 12) (by decide +kernel)

theorem trans_le {a b c d m n : Int} (hb : 0 < b) (hd : 0 < d) (hn : 0 < n) (h1 : a * d ≤ c * b) (h2 : c * n ≤ m * d) : a * n ≤ m * b := by
  have e1 : a * d * n ≤ c * b * n := Int.mul_le_mul_of_nonneg_right h1 (by omega)
  have e2 : c * n * b ≤ m * d * b := Int.mul_le_mul_of_nonneg_right h2 (by omega)
  have e3 : c * b * n = c * n * b := by grind
  have e4 : a * d * n = a * n * d := by grind
  have e5 : m * d * b = m * b * d := by grind
  have e6 : a * n * d ≤ m * b * d := by omega
  exact Int.le_of_mul_le_mul_right e6 hd

theorem RatioOrder : stopcocklaw02_RatioOrder.Pure := by
  intro a b c d m n _ _ _ _ _ _
  obtain ⟨K, hK⟩ := awake_ev
  have hA := hK K (Nat.le_refl _)
  refine ⟨K, ?_⟩
  unfold stopcocklaw02_RatioOrder.f
  by_cases h1 : okq a b ∧ okq c d
  · rw [Compare_yes h1.1 h1.2, Compare_yes h1.2 h1.1]
    by_cases h2 : okq m n
    · rw [Compare_yes h1.2 h2, Compare_yes h1.1 h2, hA]
      have hw : wrap64 (-sg (c * b) (a * d)) = sg (a * d) (c * b) := by
        have := sg_bd (c * b) (a * d)
        rw [w_id (by omega) (by omega)]
        exact (sg_flip _ _).symm
      simp only [Option.bind_some, if_true, hw]
      by_cases g1 : sg (a * d) (c * b) > 0
      · rw [if_pos g1]
      · rw [if_neg g1]
        by_cases g2 : sg (c * n) (m * d) > 0
        · rw [if_pos g2]
        · rw [if_neg g2]
          have k1 : ¬ c * b < a * d := fun h => g1 (sg_pos.2 h)
          have k2 : ¬ m * d < c * n := fun h => g2 (sg_pos.2 h)
          obtain ⟨o1, o2⟩ := h1
          unfold okq at o1 o2 h2
          have k3 := trans_le (by omega) (by omega) (by omega) (Int.not_lt.1 k1) (Int.not_lt.1 k2)
          have k4 : ¬ 0 < sg (a * n) (m * b) := fun h => by have := sg_pos.1 h; omega
          congr 1
          exact decide_eq_true (by omega)
    · rw [Compare_no (fun h => h2 h.2), Compare_no (fun h => h2 h.2), hA]
      simp
  · rw [Compare_no h1, Compare_no (fun h => h1 ⟨h.2, h.1⟩), hA]
    by_cases h2 : okq c d ∧ okq m n
    · rw [Compare_yes h2.1 h2.2, Compare_no (fun h => h1 ⟨h.1, h2.1⟩)]
      simp
    · rw [Compare_no h2]
      by_cases h3 : okq a b ∧ okq m n
      · rw [Compare_yes h3.1 h3.2]
        simp
      · rw [Compare_no h3]
        simp

end Go.Proofs.Ytnbgljphdkfmpaa.Pure
