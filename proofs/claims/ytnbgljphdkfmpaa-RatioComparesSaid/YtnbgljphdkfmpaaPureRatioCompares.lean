/- For every a, b, c and d the program compares a over b and c over d as the reference does. No conditions. -/
import Derived.DataShut
import Derived.Test.YtnbgljphdkfmpaaPRatioComparesx2
namespace Go.Proofs.Ytnbgljphdkfmpaa.Pure
open Go.RowKit Go.Proofs.Ytnbgljphdkfmpaa.PRatioCompares Go.Proofs.YtnbgljphdkfmpaaW.PrintWords Go.Proofs.YtnbgljphdkfmpaaW.PrintLast

theorem w_id {n : Int} (h0 : -9223372036854775808 ≤ n) (h1 : n ≤ 9223372036854775807) : wrap64 n = n := by
  unfold wrap64
  omega

theorem mulb {a b A B : Int} (ha : 0 ≤ a) (hA : a ≤ A) (hb : 0 ≤ b) (hB : b ≤ B) : 0 ≤ a * b ∧ a * b ≤ A * B :=
  ⟨Int.mul_nonneg ha hb, Int.mul_le_mul hA hB hb (by omega)⟩

def okq (a b : Int) : Prop := 0 ≤ a ∧ a ≤ 1048576 ∧ 1 ≤ b ∧ b ≤ 1048576

theorem quotient_yes {a b : Int} (h : okq a b) : ratio_quotient.f a b = some true := by
  obtain ⟨h1, h2, h3, h4⟩ := h
  unfold ratio_quotient.f
  rw [if_pos h1, if_pos h2, if_pos h3, decide_eq_true h4]

theorem quotient_no {a b : Int} (h : ¬ okq a b) : ratio_quotient.f a b = some false := by
  unfold okq at h
  unfold ratio_quotient.f
  by_cases h1 : a ≥ 0
  · rw [if_pos h1]
    by_cases h2 : a ≤ 1048576
    · rw [if_pos h2]
      by_cases h3 : b ≥ 1
      · rw [if_pos h3, decide_eq_false (by omega)]
      · rw [if_neg h3]
    · rw [if_neg h2]
  · rw [if_neg h1]

def sg (x y : Int) : Int := if x < y then -1 else if x > y then 1 else 0

theorem sg_lt {x y : Int} (h : x < y) : sg x y = -1 := by unfold sg; rw [if_pos h]
theorem sg_gt {x y : Int} (h : y < x) : sg x y = 1 := by unfold sg; rw [if_neg (by omega), if_pos h]
theorem sg_eq {x y : Int} (h : x = y) : sg x y = 0 := by unfold sg; rw [if_neg (by omega), if_neg (by omega)]
theorem sg_flip (x y : Int) : sg x y = - sg y x := by
  by_cases h : x < y
  · rw [sg_lt h, sg_gt h]
  · by_cases h' : y < x
    · rw [sg_gt h', sg_lt h']; rfl
    · rw [sg_eq (by omega), sg_eq (by omega)]; rfl
theorem sg_pos {x y : Int} : 0 < sg x y ↔ y < x := by
  unfold sg
  split
  · omega
  · split <;> omega
theorem sg_neg {x y : Int} : sg x y < 0 ↔ x < y := by
  unfold sg
  split
  · omega
  · split <;> omega
theorem sg_zero {x y : Int} : sg x y = 0 ↔ x = y := by
  unfold sg
  split
  · omega
  · split <;> omega
theorem sg_bd (x y : Int) : -1 ≤ sg x y ∧ sg x y ≤ 1 := by
  unfold sg
  split
  · omega
  · split <;> omega

theorem cmp_eq (x y : Int) : cmp_Compare_int.f x y = some (sg x y) := by
  unfold cmp_Compare_int.f cmp_isNaN_int.f sg
  simp only [bne_self_eq_false, Option.bind_some, Bool.false_eq_true, if_false]
  by_cases h : x < y
  · rw [if_pos h, if_pos h]
  · rw [if_neg h, if_neg h]
    by_cases h' : x > y
    · rw [if_pos h', if_pos h']
    · rw [if_neg h', if_neg h']

theorem compare_eq {a b c d : Int} (h : okq a b) (k : okq c d) : ratio_compare.f a b c d = some (sg (a * d) (c * b)) := by
  unfold okq at h k
  have h1 := mulb h.1 h.2.1 (by omega : (0 : Int) ≤ d) k.2.2.2
  have h2 := mulb k.1 k.2.1 (by omega : (0 : Int) ≤ b) h.2.2.2
  unfold ratio_compare.f
  rw [w_id (by omega) (by omega), w_id (by omega) (by omega), cmp_eq]
  rfl

theorem Compare_yes {a b c d : Int} (h : okq a b) (k : okq c d) : ratio_Compare.f a b c d = some (sg (a * d) (c * b), 0) := by
  unfold ratio_Compare.f
  simp only [quotient_yes h, quotient_yes k, compare_eq h k, Option.bind_some, if_true]

theorem Compare_no {a b c d : Int} (h : ¬ (okq a b ∧ okq c d)) : ratio_Compare.f a b c d = some (0, 1) := by
  unfold ratio_Compare.f
  by_cases h1 : okq a b
  · have h2 : ¬ okq c d := fun k => h ⟨h1, k⟩
    simp only [quotient_yes h1, quotient_no h2, Option.bind_some, if_true, Bool.false_eq_true, if_false]
  · simp only [quotient_no h1, Option.bind_some, Bool.false_eq_true, if_false]

theorem awake_ev : Ev stopcocklaw02_awake.f true := Ev.of stopcocklaw02_awake.mono (k := 12) (by decide +kernel)

theorem May_yes {a b : Int} (h : okq a b) : stopcockref02_May.f a b = some true := by
  obtain ⟨h1, h2, h3, h4⟩ := h
  unfold stopcockref02_May.f
  rw [if_pos h1, if_pos h2, if_pos h3, decide_eq_true h4]

theorem May_no {a b : Int} (h : ¬ okq a b) : stopcockref02_May.f a b = some false := by
  unfold okq at h
  unfold stopcockref02_May.f
  by_cases h1 : a ≥ 0
  · rw [if_pos h1]
    by_cases h2 : a ≤ 1048576
    · rw [if_pos h2]
      by_cases h3 : b ≥ 1
      · rw [if_pos h3, decide_eq_false (by omega)]
      · rw [if_neg h3]
    · rw [if_neg h2]
  · rw [if_neg h1]

theorem sg_shift {a b c d p a' c' : Int} (ha : a = p * b + a') (hc : c = p * d + c') : sg (a * d) (c * b) = sg (a' * d) (c' * b) := by
  have e1 : a * d = a' * d + p * b * d := by rw [ha]; grind
  have e2 : c * b = c' * b + p * b * d := by rw [hc]; grind
  rw [e1, e2]
  unfold sg
  by_cases h : a' * d < c' * b
  · rw [if_pos h, if_pos (by omega)]
  · rw [if_neg h, if_neg (by omega)]
    by_cases h' : a' * d > c' * b
    · rw [if_pos h', if_pos (by omega)]
    · rw [if_neg h', if_neg (by omega)]

theorem quo_lt {a b c d p q : Int} (hb : 0 < b) (hd : 0 < d) (ha : a < p * b + b) (hc : q * d ≤ c) (h : p + 1 ≤ q) : a * d < c * b := by
  have h1 : a < (p + 1) * b := by rw [Int.add_mul]; omega
  have h2 : (p + 1) * d ≤ q * d := Int.mul_le_mul_of_nonneg_right h (by omega)
  have h3 : a * d < (p + 1) * b * d := Int.mul_lt_mul_of_pos_right h1 hd
  have h4 : (p + 1) * d * b ≤ c * b := Int.mul_le_mul_of_nonneg_right (by omega) (by omega)
  have h5 : (p + 1) * b * d = (p + 1) * d * b := by grind
  omega

theorem ref_loop (n : Nat) : ∀ (k : Nat) (a b c d s : Int), okq a b → okq c d → b ≤ n → (s = 1 ∨ s = -1) → 2 * n < k →
    stopcockref02_Compare.l0 k a b c d s = some (s * sg (a * d) (c * b), 0) := by
  induction n with
  | zero =>
    intro k a b c d s h1 _ h3
    unfold okq at h1
    omega
  | succ n ih =>
    intro k a b c d s h1 h2 h3 hs hk
    obtain ⟨k, rfl⟩ : ∃ m, k = m + 1 := ⟨k - 1, by omega⟩
    have o1 := h1
    have o2 := h2
    unfold okq at o1 o2
    have ta : Int.tdiv a b = a / b := Int.tdiv_eq_ediv_of_nonneg (by omega)
    have tc : Int.tdiv c d = c / d := Int.tdiv_eq_ediv_of_nonneg (by omega)
    have pa : 0 ≤ a / b := Int.ediv_nonneg (by omega) (by omega)
    have pc : 0 ≤ c / d := Int.ediv_nonneg (by omega) (by omega)
    have qa : a / b ≤ a := Int.ediv_le_self _ (by omega)
    have qc : c / d ≤ c := Int.ediv_le_self _ (by omega)
    have ea : a / b * b + a % b = a := Int.ediv_mul_add_emod a b
    have ec : c / d * d + c % d = c := Int.ediv_mul_add_emod c d
    have ra : 0 ≤ a % b := Int.emod_nonneg _ (by omega)
    have rc : 0 ≤ c % d := Int.emod_nonneg _ (by omega)
    have la : a % b < b := Int.emod_lt_of_pos _ (by omega)
    have lc : c % d < d := Int.emod_lt_of_pos _ (by omega)
    have w1 : wrap64 (Int.tdiv a b) = a / b := by rw [ta]; exact w_id (by omega) (by omega)
    have w2 : wrap64 (Int.tdiv c d) = c / d := by rw [tc]; exact w_id (by omega) (by omega)
    have w3 : wrap64 (a - wrap64 (a / b * b)) = a % b := by
      rw [w_id (n := a / b * b) (by omega) (by omega), w_id (by omega) (by omega)]; omega
    have w4 : wrap64 (c - wrap64 (c / d * d)) = c % d := by
      rw [w_id (n := c / d * d) (by omega) (by omega), w_id (by omega) (by omega)]; omega
    have ws : wrap64 (-s) = -s := w_id (by omega) (by omega)
    simp only [stopcockref02_Compare.l0, w1, w2, w3, w4, ws]
    rw [if_neg (by omega), if_neg (by omega)]
    by_cases hpq : a / b = c / d
    · rw [if_pos hpq]
      have esg : sg (a * d) (c * b) = sg (a % b * d) (c % d * b) := sg_shift ea.symm (by rw [hpq]; exact ec.symm)
      rw [esg]
      obtain ⟨k, rfl⟩ : ∃ m, k = m + 1 := ⟨k - 1, by omega⟩
      by_cases z1 : a % b = 0
      · rw [if_pos z1]
        by_cases z2 : c % d = 0
        · rw [sg_eq (by rw [z1, z2]; simp)]
          simp only [stopcockref02_Compare.j2, z2, beq_self_eq_true, if_true, Int.mul_zero]
        · have hm : 0 < c % d * b := Int.mul_pos (by omega) (by omega)
          have hz : (c % d == 0) = false := by simpa using z2
          rw [sg_lt (by rw [z1]; omega)]
          simp only [stopcockref02_Compare.j2, hz, Bool.false_eq_true, if_false, z1, if_true, ws]
          congr 2
          omega
      · rw [if_neg z1]
        simp only [stopcockref02_Compare.j2, Bool.false_eq_true, if_false, ws]
        rw [if_neg z1]
        by_cases z2 : c % d = 0
        · have hm : 0 < a % b * d := Int.mul_pos (by omega) (by omega)
          rw [if_pos z2, sg_gt (by rw [z2]; omega)]
          congr 2
          omega
        · rw [if_neg z2]
          rw [ih k b (a % b) d (c % d) (-s) (by unfold okq; omega) (by unfold okq; omega) (by omega) (by omega) (by omega)]
          rw [sg_flip (a % b * d) (c % d * b), Int.mul_comm b (c % d), Int.mul_comm d (a % b)]
          congr 2
          grind
    · rw [if_neg hpq]
      by_cases hgt : a / b > c / d
      · rw [if_pos hgt, sg_gt (quo_lt (p := c / d) (q := a / b) (by omega) (by omega) (by omega) (by omega) (by omega))]
        congr 2
        omega
      · rw [if_neg hgt, sg_lt (quo_lt (p := a / b) (q := c / d) (by omega) (by omega) (by omega) (by omega) (by omega))]
        congr 2
        omega

theorem ref_yes {a b c d : Int} (h : okq a b) (h' : okq c d) {k : Nat} (hk : 2100000 ≤ k) : stopcockref02_Compare.f k a b c d = some (sg (a * d) (c * b), 0) := by
  obtain ⟨k, rfl⟩ : ∃ m, k = m + 1 := ⟨k - 1, by omega⟩
  have o1 := h
  unfold okq at o1
  have hl := ref_loop 1048576 k a b c d 1 h h' (by omega) (.inl rfl) (by omega)
  unfold stopcockref02_Compare.f
  simp only [May_yes h, May_yes h', Option.bind_some, if_true, stopcockref02_Compare.j0, Bool.not_true, Bool.false_eq_true, if_false]
  rw [hl, Int.one_mul]

theorem ref_no {a b c d : Int} (h : ¬ (okq a b ∧ okq c d)) {k : Nat} (hk : 2100000 ≤ k) : stopcockref02_Compare.f k a b c d = some (0, 1) := by
  obtain ⟨k, rfl⟩ : ∃ m, k = m + 1 := ⟨k - 1, by omega⟩
  unfold stopcockref02_Compare.f
  by_cases h1 : okq a b
  · have h2 : ¬ okq c d := fun k => h ⟨h1, k⟩
    simp only [May_yes h1, May_no h2, Option.bind_some, if_true, stopcockref02_Compare.j0, Bool.not_false]
  · simp only [May_no h1, Option.bind_some, Bool.false_eq_true, if_false, stopcockref02_Compare.j0, if_true]

theorem RatioCompares : stopcocklaw02_RatioCompares.Pure := by
  intro a b c d _ _ _ _
  obtain ⟨K, hK⟩ := awake_ev
  have hA := hK (K + 2100000) (by omega)
  refine ⟨K + 2100000, ?_⟩
  unfold stopcocklaw02_RatioCompares.f
  by_cases h : okq a b ∧ okq c d
  · rw [Compare_yes h.1 h.2, ref_yes h.1 h.2 (by omega), hA]
    simp
  · rw [Compare_no h, ref_no h (by omega), hA]
    simp

end Go.Proofs.Ytnbgljphdkfmpaa.Pure
