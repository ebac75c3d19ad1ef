/- A quotient whose two numbers are multiplied by one number is equal to it, and a little more is greater. No conditions. -/
import Derived.DataShut
import Derived.Test.YtnbgljphdkfmpaaPRatioScalex1
namespace Go.Proofs.Ytnbgljphdkfmpaa.Pure
open Go.RowKit Go.Proofs.Ytnbgljphdkfmpaa.PRatioScale Go.Proofs.YtnbgljphdkfmpaaW.PrintWords Go.Proofs.YtnbgljphdkfmpaaW.PrintLast

theorem w_id {n : Int} (h0 : -9223372036854775808 ≤ n) (h1 : n ≤ 9223372036854775807) : wrap64 n = n := by
  unfold wrap64
  omega

theorem mulb {a b A B : Int} (ha : 0 ≤ a) (hA : a ≤ A) (hb : 0 ≤ b) (hB : b ≤ B) : 0 ≤ a * b ∧ a * b ≤ A * B :=
  ⟨Int.mul_nonneg ha hb, Int.mul_le_mul hA hB hb (by omega)⟩

def okq (a b : Int) : Prop := 0 ≤ a ∧ a ≤ 1048576 ∧ 1 ≤ b ∧ b ≤ 1048576

theorem quotient_yes {a b : Int} (h : okq a b) : ratio_quotient.f a b = some true := by
  obtain ⟨h1, h2, h3, h4⟩ := h
  unfold ratio_quotient.f
  rw [if_pos h1, if_pos h2, if_pos h3, decide_eq_true h4]

theorem quotient_no {a b : Int} (h : ¬ okq a b) : ratio_quotient.f a b = some false := by
  unfold okq at h
  unfold ratio_quotient.f
  by_cases h1 : a ≥ 0
  · rw [if_pos h1]
    by_cases h2 : a ≤ 1048576
    · rw [if_pos h2]
      by_cases h3 : b ≥ 1
      · rw [if_pos h3, decide_eq_false (by omega)]
      · rw [if_neg h3]
    · rw [if_neg h2]
  · rw [if_neg h1]

def sg (x y : Int) : Int := if x < y then -1 else if x > y then 1 else 0

theorem sg_lt {x y : Int} (h : x < y) : sg x y = -1 := by unfold sg; rw [if_pos h]
theorem sg_gt {x y : Int} (h : y < x) : sg x y = 1 := by unfold sg; rw [if_neg (by omega), if_pos h]
theorem sg_eq {x y : Int} (h : x = y) : sg x y = 0 := by unfold sg; rw [if_neg (by omega), if_neg (by omega)]
theorem sg_flip (x y : Int) : sg x y = - sg y x := by
  by_cases h : x < y
  · rw [sg_lt h, sg_gt h]
  · by_cases h' : y < x
    · rw [sg_gt h', sg_lt h']; rfl
    · rw [sg_eq (by omega), sg_eq (by omega)]; rfl
theorem sg_pos {x y : Int} : 0 < sg x y ↔ y < x := by
  unfold sg
  split
  · omega
  · split <;> omega
theorem sg_neg {x y : Int} : sg x y < 0 ↔ x < y := by
  unfold sg
  split
  · omega
  · split <;> omega
theorem sg_zero {x y : Int} : sg x y = 0 ↔ x = y := by
  unfold sg
  split
  · omega
  · split <;> omega
theorem sg_bd (x y : Int) : -1 ≤ sg x y ∧ sg x y ≤ 1 := by
  unfold sg
  split
  · omega
  · split <;> omega

theorem cmp_eq (x y : Int) : cmp_Compare_int.f x y = some (sg x y) := by
  unfold cmp_Compare_int.f cmp_isNaN_int.f sg
  simp only [bne_self_eq_false, Option.bind_some, Bool.false_eq_true, if_false]
  by_cases h : x < y
  · rw [if_pos h, if_pos h]
  · rw [if_neg h, if_neg h]
    by_cases h' : x > y
    · rw [if_pos h', if_pos h']
    · rw [if_neg h', if_neg h']

theorem compare_eq {a b c d : Int} (h : okq a b) (k : okq c d) : ratio_compare.f a b c d = some (sg (a * d) (c * b)) := by
  unfold okq at h k
  have h1 := mulb h.1 h.2.1 (by omega : (0 : Int) ≤ d) k.2.2.2
  have h2 := mulb k.1 k.2.1 (by omega : (0 : Int) ≤ b) h.2.2.2
  unfold ratio_compare.f
  rw [w_id (by omega) (by omega), w_id (by omega) (by omega), cmp_eq]
  rfl

theorem Compare_yes {a b c d : Int} (h : okq a b) (k : okq c d) : ratio_Compare.f a b c d = some (sg (a * d) (c * b), 0) := by
  unfold ratio_Compare.f
  simp only [quotient_yes h, quotient_yes k, compare_eq h k, Option.bind_some, if_true]

theorem Compare_no {a b c d : Int} (h : ¬ (okq a b ∧ okq c d)) : ratio_Compare.f a b c d = some (0, 1) := by
  unfold ratio_Compare.f
  by_cases h1 : okq a b
  · have h2 : ¬ okq c d := fun k => h ⟨h1, k⟩
    simp only [quotient_yes h1, quotient_no h2, Option.bind_some, if_true, Bool.false_eq_true, if_false]
  · simp only [quotient_no h1, Option.bind_some, Bool.false_eq_true, if_false]

theorem awake_ev : Ev stopcocklaw02_awake.f true := Ev.of stopcocklaw02_awake.mono (k := 12) (by decide +kernel)

theorem in16 {n : Int} (h : (Lit.int .u16 n).wf = true) : 0 ≤ n ∧ n ≤ 65535 := by
  have := (Lit.wf_int_iff .u16 n).1 h
  simpa [IntKind.min, IntKind.max, IntKind.signed, IntKind.bits] using this

theorem RatioScale : stopcocklaw02_RatioScale.Pure := by
  intro a b c ha hb hc
  obtain ⟨K, hK⟩ := awake_ev
  have hA := hK K (Nat.le_refl _)
  refine ⟨K, ?_⟩
  have a1 := in16 ha
  have b1 := in16 hb
  have c1 := in16 hc
  unfold stopcocklaw02_RatioScale.f
  rw [w_id (n := a) (by omega) (by omega), w_id (n := b) (by omega) (by omega), w_id (n := c) (by omega) (by omega)]
  rw [Int.tmod_eq_emod_of_nonneg (a := a) (by omega), Int.tmod_eq_emod_of_nonneg (a := b) (by omega), Int.tmod_eq_emod_of_nonneg (a := c) (by omega)]
  rw [w_id (n := 1 + b % 1024) (by omega) (by omega), w_id (n := 1 + c % 1000) (by omega) (by omega)]
  obtain ⟨x, hx⟩ : ∃ x, x = a % 1024 := ⟨_, rfl⟩
  obtain ⟨y, hy⟩ : ∃ y, y = 1 + b % 1024 := ⟨_, rfl⟩
  obtain ⟨n, hn⟩ : ∃ n, n = 1 + c % 1000 := ⟨_, rfl⟩
  rw [← hx, ← hy, ← hn]
  have x1 : 0 ≤ x ∧ x ≤ 1023 := by omega
  have y1 : 1 ≤ y ∧ y ≤ 1024 := by omega
  have n1 : 1 ≤ n ∧ n ≤ 1000 := by omega
  clear hx hy hn
  have m1 := mulb x1.1 x1.2 (by omega : (0 : Int) ≤ n) n1.2
  have m2 := mulb (by omega : (0 : Int) ≤ y) y1.2 (by omega : (0 : Int) ≤ n) n1.2
  have m3 : 1 ≤ y * n := Int.mul_pos (by omega) (by omega)
  rw [w_id (n := x * n) (by omega) (by omega), w_id (n := y * n) (by omega) (by omega), w_id (n := x * n + 1) (by omega) (by omega)]
  have q1 : okq x y := by unfold okq; omega
  have q2 : okq (x * n) (y * n) := by unfold okq; omega
  have q3 : okq (x * n + 1) (y * n) := by unfold okq; omega
  rw [Compare_yes q1 q2, Compare_yes q1 q3, hA]
  have e1 : x * (y * n) = x * n * y := by grind
  have e2 : x * (y * n) < (x * n + 1) * y := by
    rw [Int.add_mul, ← e1]
    omega
  rw [sg_eq e1, sg_lt e2]
  simp

end Go.Proofs.Ytnbgljphdkfmpaa.Pure
