/- Of two segments of one age the emptier one is worth more, of two as empty the elder one. No conditions. -/
import Derived.DataShut
import Derived.Test.YtnbgljphdkfmpaaPRatioWorthx2
namespace Go.Proofs.Ytnbgljphdkfmpaa.Pure
open Go.RowKit Go.Proofs.Ytnbgljphdkfmpaa.PRatioWorth Go.Proofs.YtnbgljphdkfmpaaW.PrintWords Go.Proofs.YtnbgljphdkfmpaaW.PrintLast

theorem w_id {n : Int} (h0 : -9223372036854775808 ≤ n) (h1 : n ≤ 9223372036854775807) : wrap64 n = n := by
  unfold wrap64
  omega

theorem mulb {a b A B : Int} (ha : 0 ≤ a) (hA : a ≤ A) (hb : 0 ≤ b) (hB : b ≤ B) : 0 ≤ a * b ∧ a * b ≤ A * B :=
  ⟨Int.mul_nonneg ha hb, Int.mul_le_mul hA hB hb (by omega)⟩

def okq (a b : Int) : Prop := 0 ≤ a ∧ a ≤ 1048576 ∧ 1 ≤ b ∧ b ≤ 1048576

theorem quotient_yes {a b : Int} (h : okq a b) : ratio_quotient.f a b = some true := by
  obtain ⟨h1, h2, h3, h4⟩ := h
  unfold ratio_quotient.f
  rw [if_pos h1, if_pos h2, if_pos h3, decide_eq_true h4]

theorem quotient_no {a b : Int} (h : ¬ okq a b) : ratio_quotient.f a b = some false := by
  unfold okq at h
  unfold ratio_quotient.f
  by_cases h1 : a ≥ 0
  · rw [if_pos h1]
    by_cases h2 : a ≤ 1048576
    · rw [if_pos h2]
      by_cases h3 : b ≥ 1
      · rw [if_pos h3, decide_eq_false (by omega)]
      · rw [if_neg h3]
    · rw [if_neg h2]
  · rw [if_neg h1]

def sg (x y : Int) : Int := if x < y then -1 else if x > y then 1 else 0

theorem sg_lt {x y : Int} (h : x < y) : sg x y = -1 := by unfold sg; rw [if_pos h]
theorem sg_gt {x y : Int} (h : y < x) : sg x y = 1 := by unfold sg; rw [if_neg (by omega), if_pos h]
theorem sg_eq {x y : Int} (h : x = y) : sg x y = 0 := by unfold sg; rw [if_neg (by omega), if_neg (by omega)]
theorem sg_flip (x y : Int) : sg x y = - sg y x := by
  by_cases h : x < y
  · rw [sg_lt h, sg_gt h]
  · by_cases h' : y < x
    · rw [sg_gt h', sg_lt h']; rfl
    · rw [sg_eq (by omega), sg_eq (by omega)]; rfl
theorem sg_pos {x y : Int} : 0 < sg x y ↔ y < x := by
  unfold sg
  split
  · omega
  · split <;> omega
theorem sg_neg {x y : Int} : sg x y < 0 ↔ x < y := by
  unfold sg
  split
  · omega
  · split <;> omega
theorem sg_zero {x y : Int} : sg x y = 0 ↔ x = y := by
  unfold sg
  split
  · omega
  · split <;> omega
theorem sg_bd (x y : Int) : -1 ≤ sg x y ∧ sg x y ≤ 1 := by
  unfold sg
  split
  · omega
  · split <;> omega

theorem cmp_eq (x y : Int) : cmp_Compare_int.f x y = some (sg x y) := by
  unfold cmp_Compare_int.f cmp_isNaN_int.f sg
  simp only [bne_self_eq_false, Option.bind_some, Bool.false_eq_true, if_false]
  by_cases h : x < y
  · rw [if_pos h, if_pos h]
  · rw [if_neg h, if_neg h]
    by_cases h' : x > y
    · rw [if_pos h', if_pos h']
    · rw [if_neg h', if_neg h']

theorem compare_eq {a b c d : Int} (h : okq a b) (k : okq c d) : ratio_compare.f a b c d = some (sg (a * d) (c * b)) := by
  unfold okq at h k
  have h1 := mulb h.1 h.2.1 (by omega : (0 : Int) ≤ d) k.2.2.2
  have h2 := mulb k.1 k.2.1 (by omega : (0 : Int) ≤ b) h.2.2.2
  unfold ratio_compare.f
  rw [w_id (by omega) (by omega), w_id (by omega) (by omega), cmp_eq]
  rfl

theorem Compare_yes {a b c d : Int} (h : okq a b) (k : okq c d) : ratio_Compare.f a b c d = some (sg (a * d) (c * b), 0) := by
  unfold ratio_Compare.f
  simp only [quotient_yes h, quotient_yes k, compare_eq h k, Option.bind_some, if_true]

theorem Compare_no {a b c d : Int} (h : ¬ (okq a b ∧ okq c d)) : ratio_Compare.f a b c d = some (0, 1) := by
  unfold ratio_Compare.f
  by_cases h1 : okq a b
  · have h2 : ¬ okq c d := fun k => h ⟨h1, k⟩
    simp only [quotient_yes h1, quotient_no h2, Option.bind_some, if_true, Bool.false_eq_true, if_false]
  · simp only [quotient_no h1, Option.bind_some, Bool.false_eq_true, if_false]

theorem awake_ev : Ev stopcocklaw02_awake.f true := Ev.of stopcocklaw02_awake.mono (k := 12) (by decide +kernel)

theorem in8 {n : Int} (h : (Lit.int .u8 n).wf = true) : 0 ≤ n ∧ n ≤ 255 := by
  have := (Lit.wf_int_iff .u8 n).1 h
  simpa [IntKind.min, IntKind.max, IntKind.signed, IntKind.bits] using this

theorem in16 {n : Int} (h : (Lit.int .u16 n).wf = true) : 0 ≤ n ∧ n ≤ 65535 := by
  have := (Lit.wf_int_iff .u16 n).1 h
  simpa [IntKind.min, IntKind.max, IntKind.signed, IntKind.bits] using this

theorem score_yes {x n k : Int} (hn : 2 ≤ n) (hn' : n ≤ 16) (hx : 0 ≤ x) (hx' : x ≤ n) (hk : 0 ≤ k) (hk' : k ≤ 65535) :
    ratio_Score.f x n k = some ((n - x) * (k + 1), n + x, 0) := by
  have m := mulb (by omega : (0 : Int) ≤ n - x) (by omega : n - x ≤ 16) (by omega : (0 : Int) ≤ k + 1) (by omega : k + 1 ≤ 65536)
  unfold ratio_Score.f
  rw [if_neg (by omega), if_neg (by omega), if_neg (by omega), if_neg (by omega), if_neg (by omega), if_neg (by omega)]
  rw [w_id (n := n - x) (by omega) (by omega), w_id (n := k + 1) (by omega) (by omega), w_id (n := n + x) (by omega) (by omega), w_id (by omega) (by omega)]

theorem score_ok {x n k : Int} (hn : 2 ≤ n) (hn' : n ≤ 16) (hx : 0 ≤ x) (hx' : x ≤ n) (hk : 0 ≤ k) (hk' : k ≤ 65535) : okq ((n - x) * (k + 1)) (n + x) := by
  have m := mulb (by omega : (0 : Int) ≤ n - x) (by omega : n - x ≤ 16) (by omega : (0 : Int) ≤ k + 1) (by omega : k + 1 ≤ 65536)
  unfold okq
  omega

theorem emptier {x y n k : Int} (hn : 2 ≤ n) (hk : 0 ≤ k) : ((n - y) * (k + 1) * (n + x) < (n - x) * (k + 1) * (n + y) ↔ x < y) ∧ (y = x → (n - x) * (k + 1) * (n + y) = (n - y) * (k + 1) * (n + x)) := by
  have e : (n - x) * (k + 1) * (n + y) - (n - y) * (k + 1) * (n + x) = (k + 1) * (2 * n) * (y - x) := by grind
  have hp : 0 < (k + 1) * (2 * n) := Int.mul_pos (by omega) (by omega)
  refine ⟨⟨fun h => ?_, fun h => ?_⟩, fun h => by rw [h]⟩
  · have h1 : 0 < (k + 1) * (2 * n) * (y - x) := by omega
    have h2 : 0 < y - x := Int.pos_of_mul_pos_right h1 hp
    omega
  · have h1 : 0 < (k + 1) * (2 * n) * (y - x) := Int.mul_pos hp (by omega)
    omega

theorem elder {x n k K : Int} (hn : 2 ≤ n) (hx : 0 ≤ x) (hx' : x < n) : ((n - x) * (k + 1) * (n + x) < (n - x) * (K + 1) * (n + x) ↔ k < K) := by
  have e : (n - x) * (K + 1) * (n + x) - (n - x) * (k + 1) * (n + x) = (n - x) * (n + x) * (K - k) := by grind
  have hp : 0 < (n - x) * (n + x) := Int.mul_pos (by omega) (by omega)
  refine ⟨fun h => ?_, fun h => ?_⟩
  · have h1 : 0 < (n - x) * (n + x) * (K - k) := by omega
    have h2 : 0 < K - k := Int.pos_of_mul_pos_right h1 hp
    omega
  · have h1 : 0 < (n - x) * (n + x) * (K - k) := Int.mul_pos hp (by omega)
    omega

theorem worth_end {kk : Nat} (hA : stopcocklaw02_awake.f kk = some true) {k x y n K : Int} (hn : 2 ≤ n) (hn' : n ≤ 16) (hx : 0 ≤ x) (hxy : x ≤ y) (hy : y ≤ n) (hk : 0 ≤ k) (hK : k ≤ K) (hK' : K ≤ 65535) :
    stopcocklaw02_RatioWorth.j0 (kk + 1) k n x y ((n - x) * (k + 1)) (n + x) 0 ((n - y) * (k + 1)) (n + y) 0 K = some true := by
  simp only [stopcocklaw02_RatioWorth.j0]
  rw [w_id (n := k) (by omega) (by omega)]
  rw [score_yes hn hn' hx (by omega) (by omega) hK']
  have q1 := score_ok hn hn' hx (by omega : x ≤ n) hk (by omega : k ≤ 65535)
  have q2 := score_ok hn hn' (by omega : 0 ≤ y) hy hk (by omega : k ≤ 65535)
  have q3 := score_ok hn hn' hx (by omega : x ≤ n) (by omega : 0 ≤ K) hK'
  rw [Compare_yes q1 q2]
  simp only [Option.bind_some]
  rw [Compare_yes q3 q1, hA]
  simp only [Option.bind_some, if_true]
  obtain ⟨e1, e1'⟩ := emptier (x := x) (y := y) (k := k) hn hk
  obtain ⟨s, hs⟩ : ∃ s, s = sg ((n - x) * (k + 1) * (n + y)) ((n - y) * (k + 1) * (n + x)) := ⟨_, rfl⟩
  have p1 : 0 < s ↔ x < y := by rw [hs, sg_pos]; exact e1
  have p2 : y = x → s = 0 := fun h => by rw [hs]; exact sg_eq (e1' h)
  rw [← hs]
  have s0 : s ≥ 0 := by
    by_cases h : x < y
    · have := p1.2 h; omega
    · have := p2 (by omega); omega
  rw [if_pos s0]
  have s1 : ((decide (s > 0)) == (decide (y > x))) = true := by
    by_cases h : x < y
    · have := p1.2 h
      rw [decide_eq_true this, decide_eq_true h]; rfl
    · have g : ¬ s > 0 := fun g => h (p1.1 g)
      rw [decide_eq_false g, decide_eq_false h]; rfl
  rw [if_pos s1]
  obtain ⟨t, ht⟩ : ∃ t, t = sg ((n - x) * (K + 1) * (n + x)) ((n - x) * (k + 1) * (n + x)) := ⟨_, rfl⟩
  rw [← ht]
  have t0 : t ≥ 0 := by
    have h1 : (n - x) * (k + 1) ≤ (n - x) * (K + 1) := Int.mul_le_mul_of_nonneg_left (by omega) (by omega)
    have h2 : (n - x) * (k + 1) * (n + x) ≤ (n - x) * (K + 1) * (n + x) := Int.mul_le_mul_of_nonneg_right h1 (by omega)
    by_cases g : t < 0
    · rw [ht, sg_neg] at g
      omega
    · omega
  rw [if_pos t0]
  by_cases hxn : x = n
  · rw [if_pos hxn]
  · rw [if_neg hxn]
    have e2 := elder (x := x) (n := n) (k := k) (K := K) hn hx (by omega)
    congr 1
    by_cases h : K > k
    · have g : t > 0 := by rw [ht]; exact sg_pos.2 (e2.2 h)
      rw [decide_eq_true g, decide_eq_true h]; rfl
    · have g : ¬ t > 0 := fun g => by
        rw [ht] at g
        exact h (e2.1 (sg_pos.1 g))
      rw [decide_eq_false g, decide_eq_false h]; rfl

theorem RatioWorth : stopcocklaw02_RatioWorth.Pure := by
  intro a b c d e ha hb hc hd he
  obtain ⟨K, hK⟩ := awake_ev
  have hA := hK K (Nat.le_refl _)
  refine ⟨K + 1, ?_⟩
  have a1 := in8 ha
  have b1 := in8 hb
  have c1 := in8 hc
  have d1 := in16 hd
  have e1 := in16 he
  unfold stopcocklaw02_RatioWorth.f
  have cn : wrap64 (2 + wrap64 (Int.tmod c 15)) = 2 + c % 15 := by
    rw [Int.tmod_eq_emod_of_nonneg (a := c) (by omega), w_id (n := c % 15) (by omega) (by omega), w_id (by omega) (by omega)]
  rw [cn, w_id (n := a) (by omega) (by omega), w_id (n := b) (by omega) (by omega), w_id (n := d) (by omega) (by omega), w_id (n := e) (by omega) (by omega)]
  obtain ⟨n, hn⟩ : ∃ n, n = 2 + c % 15 := ⟨_, rfl⟩
  rw [← hn]
  have n1 : 2 ≤ n ∧ n ≤ 16 := by omega
  rw [w_id (n := n + 1) (by omega) (by omega)]
  rw [Int.tmod_eq_emod_of_nonneg (a := a) (by omega)]
  have x1 : 0 ≤ a % (n + 1) := Int.emod_nonneg _ (by omega)
  have x2 : a % (n + 1) < n + 1 := Int.emod_lt_of_pos _ (by omega)
  obtain ⟨x, hx⟩ : ∃ x, x = a % (n + 1) := ⟨_, rfl⟩
  rw [← hx] at x1 x2 ⊢
  rw [w_id (n := n + 1 - x) (by omega) (by omega)]
  rw [Int.tmod_eq_emod_of_nonneg (a := b) (by omega)]
  have y1 : 0 ≤ b % (n + 1 - x) := Int.emod_nonneg _ (by omega)
  have y2 : b % (n + 1 - x) < n + 1 - x := Int.emod_lt_of_pos _ (by omega)
  obtain ⟨y, hy⟩ : ∃ y, y = b % (n + 1 - x) := ⟨_, rfl⟩
  rw [← hy] at y1 y2 ⊢
  rw [w_id (n := x + y) (by omega) (by omega)]
  rw [if_neg (by omega), if_neg (by omega)]
  rw [score_yes n1.1 n1.2 x1 (by omega) d1.1 d1.2, score_yes n1.1 n1.2 (by omega) (by omega) d1.1 d1.2]
  simp only [Option.bind_some]
  by_cases h : e > d
  · rw [if_pos h]
    exact worth_end hA n1.1 n1.2 x1 (by omega) (by omega) d1.1 (by omega) e1.2
  · rw [if_neg h]
    exact worth_end hA n1.1 n1.2 x1 (by omega) (by omega) d1.1 (by omega) d1.2

end Go.Proofs.Ytnbgljphdkfmpaa.Pure
