/- For any two lists of numbers the program finds the first of the greatest quotients as the reference does. No conditions. -/
import Derived.DataShut
import Derived.Test.YtnbgljphdkfmpaaRatioBestW
namespace Go.Proofs.Ytnbgljphdkfmpaa.Pure
open Go.RowKit Go.Proofs.Ytnbgljphdkfmpaa.PRatioBest Go.Proofs.YtnbgljphdkfmpaaW.PrintWords Go.Proofs.YtnbgljphdkfmpaaW.PrintLast

theorem w_id {n : Int} (h0 : -9223372036854775808 ≤ n) (h1 : n ≤ 9223372036854775807) : wrap64 n = n := by
  unfold wrap64
  omega

theorem mulb {a b A B : Int} (ha : 0 ≤ a) (hA : a ≤ A) (hb : 0 ≤ b) (hB : b ≤ B) : 0 ≤ a * b ∧ a * b ≤ A * B :=
  ⟨Int.mul_nonneg ha hb, Int.mul_le_mul hA hB hb (by omega)⟩

def okq (a b : Int) : Prop := 0 ≤ a ∧ a ≤ 1048576 ∧ 1 ≤ b ∧ b ≤ 1048576

theorem quotient_yes {a b : Int} (h : okq a b) : ratio_quotient.f a b = some true := by
  obtain ⟨h1, h2, h3, h4⟩ := h
  unfold ratio_quotient.f
  rw [if_pos h1, if_pos h2, if_pos h3, decide_eq_true h4]

theorem quotient_no {a b : Int} (h : ¬ okq a b) : ratio_quotient.f a b = some false := by
  unfold okq at h
  unfold ratio_quotient.f
  by_cases h1 : a ≥ 0
  · rw [if_pos h1]
    by_cases h2 : a ≤ 1048576
    · rw [if_pos h2]
      by_cases h3 : b ≥ 1
      · rw [if_pos h3, decide_eq_false (by omega)]
      · rw [if_neg h3]
    · rw [if_neg h2]
  · rw [if_neg h1]

def sg (x y : Int) : Int := if x < y then -1 else if x > y then 1 else 0

theorem sg_lt {x y : Int} (h : x < y) : sg x y = -1 := by unfold sg; rw [if_pos h]
theorem sg_gt {x y : Int} (h : y < x) : sg x y = 1 := by unfold sg; rw [if_neg (by omega), if_pos h]
theorem sg_eq {x y : Int} (h : x = y) : sg x y = 0 := by unfold sg; rw [if_neg (by omega), if_neg (by omega)]
theorem sg_flip (x y : Int) : sg x y = - sg y x := by
  by_cases h : x < y
  · rw [sg_lt h, sg_gt h]
  · by_cases h' : y < x
    · rw [sg_gt h', sg_lt h']; rfl
    · rw [sg_eq (by omega), sg_eq (by omega)]; rfl
theorem sg_pos {x y : Int} : 0 < sg x y ↔ y < x := by
  unfold sg
  split
  · omega
  · split <;> omega
theorem sg_neg {x y : Int} : sg x y < 0 ↔ x < y := by
  unfold sg
  split
  · omega
  · split <;> omega
theorem sg_zero {x y : Int} : sg x y = 0 ↔ x = y := by
  unfold sg
  split
  · omega
  · split <;> omega
theorem sg_bd (x y : Int) : -1 ≤ sg x y ∧ sg x y ≤ 1 := by
  unfold sg
  split
  · omega
  · split <;> omega

theorem cmp_eq (x y : Int) : cmp_Compare_int.f x y = some (sg x y) := by
  unfold cmp_Compare_int.f cmp_isNaN_int.f sg
  simp only [bne_self_eq_false, Option.bind_some, Bool.false_eq_true, if_false]
  by_cases h : x < y
  · rw [if_pos h, if_pos h]
  · rw [if_neg h, if_neg h]
    by_cases h' : x > y
    · rw [if_pos h', if_pos h']
    · rw [if_neg h', if_neg h']

theorem compare_eq {a b c d : Int} (h : okq a b) (k : okq c d) : ratio_compare.f a b c d = some (sg (a * d) (c * b)) := by
  unfold okq at h k
  have h1 := mulb h.1 h.2.1 (by omega : (0 : Int) ≤ d) k.2.2.2
  have h2 := mulb k.1 k.2.1 (by omega : (0 : Int) ≤ b) h.2.2.2
  unfold ratio_compare.f
  rw [w_id (by omega) (by omega), w_id (by omega) (by omega), cmp_eq]
  rfl

theorem Compare_yes {a b c d : Int} (h : okq a b) (k : okq c d) : ratio_Compare.f a b c d = some (sg (a * d) (c * b), 0) := by
  unfold ratio_Compare.f
  simp only [quotient_yes h, quotient_yes k, compare_eq h k, Option.bind_some, if_true]

theorem Compare_no {a b c d : Int} (h : ¬ (okq a b ∧ okq c d)) : ratio_Compare.f a b c d = some (0, 1) := by
  unfold ratio_Compare.f
  by_cases h1 : okq a b
  · have h2 : ¬ okq c d := fun k => h ⟨h1, k⟩
    simp only [quotient_yes h1, quotient_no h2, Option.bind_some, if_true, Bool.false_eq_true, if_false]
  · simp only [quotient_no h1, Option.bind_some, Bool.false_eq_true, if_false]

theorem awake_ev : Ev stopcocklaw02_awake.f true := Ev.of stopcocklaw02_awake.mono (k := 12) (by decide +kernel)

theorem May_yes {a b : Int} (h : okq a b) : stopcockref02_May.f a b = some true := by
  obtain ⟨h1, h2, h3, h4⟩ := h
  unfold stopcockref02_May.f
  rw [if_pos h1, if_pos h2, if_pos h3, decide_eq_true h4]

theorem May_no {a b : Int} (h : ¬ okq a b) : stopcockref02_May.f a b = some false := by
  unfold okq at h
  unfold stopcockref02_May.f
  by_cases h1 : a ≥ 0
  · rw [if_pos h1]
    by_cases h2 : a ≤ 1048576
    · rw [if_pos h2]
      by_cases h3 : b ≥ 1
      · rw [if_pos h3, decide_eq_false (by omega)]
      · rw [if_neg h3]
    · rw [if_neg h2]
  · rw [if_neg h1]

theorem sg_shift {a b c d p a' c' : Int} (ha : a = p * b + a') (hc : c = p * d + c') : sg (a * d) (c * b) = sg (a' * d) (c' * b) := by
  have e1 : a * d = a' * d + p * b * d := by rw [ha]; grind
  have e2 : c * b = c' * b + p * b * d := by rw [hc]; grind
  rw [e1, e2]
  unfold sg
  by_cases h : a' * d < c' * b
  · rw [if_pos h, if_pos (by omega)]
  · rw [if_neg h, if_neg (by omega)]
    by_cases h' : a' * d > c' * b
    · rw [if_pos h', if_pos (by omega)]
    · rw [if_neg h', if_neg (by omega)]

theorem quo_lt {a b c d p q : Int} (hb : 0 < b) (hd : 0 < d) (ha : a < p * b + b) (hc : q * d ≤ c) (h : p + 1 ≤ q) : a * d < c * b := by
  have h1 : a < (p + 1) * b := by rw [Int.add_mul]; omega
  have h2 : (p + 1) * d ≤ q * d := Int.mul_le_mul_of_nonneg_right h (by omega)
  have h3 : a * d < (p + 1) * b * d := Int.mul_lt_mul_of_pos_right h1 hd
  have h4 : (p + 1) * d * b ≤ c * b := Int.mul_le_mul_of_nonneg_right (by omega) (by omega)
  have h5 : (p + 1) * b * d = (p + 1) * d * b := by grind
  omega

theorem ref_loop (n : Nat) : ∀ (k : Nat) (a b c d s : Int), okq a b → okq c d → b ≤ n → (s = 1 ∨ s = -1) → 2 * n < k →
    stopcockref02_Compare.l0 k a b c d s = some (s * sg (a * d) (c * b), 0) := by
  induction n with
  | zero =>
    intro k a b c d s h1 _ h3
    unfold okq at h1
    omega
  | succ n ih =>
    intro k a b c d s h1 h2 h3 hs hk
    obtain ⟨k, rfl⟩ : ∃ m, k = m + 1 := ⟨k - 1, by omega⟩
    have o1 := h1
    have o2 := h2
    unfold okq at o1 o2
    have ta : Int.tdiv a b = a / b := Int.tdiv_eq_ediv_of_nonneg (by omega)
    have tc : Int.tdiv c d = c / d := Int.tdiv_eq_ediv_of_nonneg (by omega)
    have pa : 0 ≤ a / b := Int.ediv_nonneg (by omega) (by omega)
    have pc : 0 ≤ c / d := Int.ediv_nonneg (by omega) (by omega)
    have qa : a / b ≤ a := Int.ediv_le_self _ (by omega)
    have qc : c / d ≤ c := Int.ediv_le_self _ (by omega)
    have ea : a / b * b + a % b = a := Int.ediv_mul_add_emod a b
    have ec : c / d * d + c % d = c := Int.ediv_mul_add_emod c d
    have ra : 0 ≤ a % b := Int.emod_nonneg _ (by omega)
    have rc : 0 ≤ c % d := Int.emod_nonneg _ (by omega)
    have la : a % b < b := Int.emod_lt_of_pos _ (by omega)
    have lc : c % d < d := Int.emod_lt_of_pos _ (by omega)
    have w1 : wrap64 (Int.tdiv a b) = a / b := by rw [ta]; exact w_id (by omega) (by omega)
    have w2 : wrap64 (Int.tdiv c d) = c / d := by rw [tc]; exact w_id (by omega) (by omega)
    have w3 : wrap64 (a - wrap64 (a / b * b)) = a % b := by
      rw [w_id (n := a / b * b) (by omega) (by omega), w_id (by omega) (by omega)]; omega
    have w4 : wrap64 (c - wrap64 (c / d * d)) = c % d := by
      rw [w_id (n := c / d * d) (by omega) (by omega), w_id (by omega) (by omega)]; omega
    have ws : wrap64 (-s) = -s := w_id (by omega) (by omega)
    simp only [stopcockref02_Compare.l0, w1, w2, w3, w4, ws]
    rw [if_neg (by omega), if_neg (by omega)]
    by_cases hpq : a / b = c / d
    · rw [if_pos hpq]
      have esg : sg (a * d) (c * b) = sg (a % b * d) (c % d * b) := sg_shift ea.symm (by rw [hpq]; exact ec.symm)
      rw [esg]
      obtain ⟨k, rfl⟩ : ∃ m, k = m + 1 := ⟨k - 1, by omega⟩
      by_cases z1 : a % b = 0
      · rw [if_pos z1]
        by_cases z2 : c % d = 0
        · rw [sg_eq (by rw [z1, z2]; simp)]
          simp only [stopcockref02_Compare.j2, z2, beq_self_eq_true, if_true, Int.mul_zero]
        · have hm : 0 < c % d * b := Int.mul_pos (by omega) (by omega)
          have hz : (c % d == 0) = false := by simpa using z2
          rw [sg_lt (by rw [z1]; omega)]
          simp only [stopcockref02_Compare.j2, hz, Bool.false_eq_true, if_false, z1, if_true, ws]
          congr 2
          omega
      · rw [if_neg z1]
        simp only [stopcockref02_Compare.j2, Bool.false_eq_true, if_false, ws]
        rw [if_neg z1]
        by_cases z2 : c % d = 0
        · have hm : 0 < a % b * d := Int.mul_pos (by omega) (by omega)
          rw [if_pos z2, sg_gt (by rw [z2]; omega)]
          congr 2
          omega
        · rw [if_neg z2]
          rw [ih k b (a % b) d (c % d) (-s) (by unfold okq; omega) (by unfold okq; omega) (by omega) (by omega) (by omega)]
          rw [sg_flip (a % b * d) (c % d * b), Int.mul_comm b (c % d), Int.mul_comm d (a % b)]
          congr 2
          grind
    · rw [if_neg hpq]
      by_cases hgt : a / b > c / d
      · rw [if_pos hgt, sg_gt (quo_lt (p := c / d) (q := a / b) (by omega) (by omega) (by omega) (by omega) (by omega))]
        congr 2
        omega
      · rw [if_neg hgt, sg_lt (quo_lt (p := a / b) (q := c / d) (by omega) (by omega) (by omega) (by omega) (by omega))]
        congr 2
        omega

theorem ref_yes {a b c d : Int} (h : okq a b) (h' : okq c d) {k : Nat} (hk : 2100000 ≤ k) : stopcockref02_Compare.f k a b c d = some (sg (a * d) (c * b), 0) := by
  obtain ⟨k, rfl⟩ : ∃ m, k = m + 1 := ⟨k - 1, by omega⟩
  have o1 := h
  unfold okq at o1
  have hl := ref_loop 1048576 k a b c d 1 h h' (by omega) (.inl rfl) (by omega)
  unfold stopcockref02_Compare.f
  simp only [May_yes h, May_yes h', Option.bind_some, if_true, stopcockref02_Compare.j0, Bool.not_true, Bool.false_eq_true, if_false]
  rw [hl, Int.one_mul]

theorem ref_no {a b c d : Int} (h : ¬ (okq a b ∧ okq c d)) {k : Nat} (hk : 2100000 ≤ k) : stopcockref02_Compare.f k a b c d = some (0, 1) := by
  obtain ⟨k, rfl⟩ : ∃ m, k = m + 1 := ⟨k - 1, by omega⟩
  unfold stopcockref02_Compare.f
  by_cases h1 : okq a b
  · have h2 : ¬ okq c d := fun k => h ⟨h1, k⟩
    simp only [May_yes h1, May_no h2, Option.bind_some, if_true, stopcockref02_Compare.j0, Bool.not_false]
  · simp only [May_no h1, Option.bind_some, Bool.false_eq_true, if_false, stopcockref02_Compare.j0, if_true]

/-- The quotient i is at most the quotient j. -/
def le (xs ys : List Int) (i j : Nat) : Prop := rd xs i * rd ys j ≤ rd xs j * rd ys i
def lt (xs ys : List Int) (i j : Nat) : Prop := rd xs i * rd ys j < rd xs j * rd ys i

theorem le_trans' {a b c d m n : Int} (hb : 0 < b) (hd : 0 < d) (hn : 0 < n) (h1 : a * d ≤ c * b) (h2 : c * n ≤ m * d) : a * n ≤ m * b := by
  have e1 : a * d * n ≤ c * b * n := Int.mul_le_mul_of_nonneg_right h1 (by omega)
  have e2 : c * n * b ≤ m * d * b := Int.mul_le_mul_of_nonneg_right h2 (by omega)
  have e3 : c * b * n = c * n * b := by grind
  have e4 : a * d * n = a * n * d := by grind
  have e5 : m * d * b = m * b * d := by grind
  have e6 : a * n * d ≤ m * b * d := by omega
  exact Int.le_of_mul_le_mul_right e6 hd

theorem lt_of_le_lt {a b c d m n : Int} (hb : 0 < b) (hd : 0 < d) (hn : 0 < n) (h1 : a * d ≤ c * b) (h2 : c * n < m * d) : a * n < m * b := by
  have e1 : a * d * n ≤ c * b * n := Int.mul_le_mul_of_nonneg_right h1 (by omega)
  have e2 : c * n * b < m * d * b := Int.mul_lt_mul_of_pos_right h2 hb
  have e3 : c * b * n = c * n * b := by grind
  have e4 : a * d * n = a * n * d := by grind
  have e5 : m * d * b = m * b * d := by grind
  have e6 : a * n * d < m * b * d := by omega
  exact Int.lt_of_mul_lt_mul_right e6 (by omega)

/-- All quotients may be. -/
def allok (xs ys : List Int) : Prop := ∀ i : Nat, i < xs.length → okq (rd xs i) (rd ys i)

/-- The first of the greatest of the first n. -/
def first (xs ys : List Int) (n b : Nat) : Prop := b < n ∧ (∀ i : Nat, i < n → le xs ys i b) ∧ (∀ i : Nat, i < b → lt xs ys i b)

theorem first_one {xs ys : List Int} {n b c : Nat} (h : first xs ys n b) (h' : first xs ys n c) : b = c := by
  obtain ⟨h1, h2, h3⟩ := h
  obtain ⟨k1, k2, k3⟩ := h'
  unfold le at h2 k2
  unfold lt at h3 k3
  by_cases g : b < c
  · have := k3 b g
    have := h2 c k1
    omega
  · by_cases g' : c < b
    · have := h3 c g'
      have := k2 b h1
      omega
    · omega

theorem loop_best (xs ys : List Int) (hl : xs.length = ys.length) (hm : xs.length ≤ 4096) (d : Nat) : ∀ (k i b : Nat), i + d = xs.length → d < k → (∀ j : Nat, j < i → okq (rd xs j) (rd ys j)) →
    ((i = 0 ∧ b = 0) ∨ first xs ys i b) →
    (allok xs ys → 0 < xs.length → ∃ r : Nat, ratio_Best.l0 k xs ys (b : Int) (xs.length : Int) (i : Int) = some ((r : Int), 0) ∧ first xs ys xs.length r) ∧
    (¬ allok xs ys → ratio_Best.l0 k xs ys (b : Int) (xs.length : Int) (i : Int) = some (0, 1)) := by
  induction d with
  | zero =>
    intro k i b hd hk hok hb
    obtain ⟨k, rfl⟩ : ∃ m, k = m + 1 := ⟨k - 1, by omega⟩
    have hi : i = xs.length := by omega
    subst hi
    refine ⟨fun _ h0 => ⟨b, ?_, ?_⟩, fun hn => absurd hok hn⟩
    · simp only [ratio_Best.l0]
      rw [if_neg (by omega)]
    · rcases hb with ⟨h, _⟩ | h
      · omega
      · exact h
  | succ d ih =>
    intro k i b hd hk hok hb
    obtain ⟨k, rfl⟩ : ∃ m, k = m + 1 := ⟨k - 1, by omega⟩
    have hil : i < xs.length := by omega
    have hbi : b ≤ i := by rcases hb with ⟨h, h'⟩ | h; omega; have := h.1; omega
    have ew : wrap64 ((i : Int) + 1) = ((i + 1 : Nat) : Int) := by rw [w_id (by omega) (by omega)]; omega
    simp only [ratio_Best.l0, ew]
    rw [if_pos (by omega), if_pos (by omega), if_pos (by omega), if_pos (by omega)]
    by_cases q : okq (rd xs i) (rd ys i)
    · have hok' : ∀ j : Nat, j < i + 1 → okq (rd xs j) (rd ys j) := by
        intro j hj
        by_cases e : j = i
        · subst e; exact q
        · exact hok j (by omega)
      have qb : okq (rd xs b) (rd ys b) := hok' b (by omega)
      rw [quotient_yes q]
      simp only [Option.bind_some, if_true]
      rw [if_pos (by omega), if_pos (by omega), if_pos (by omega), compare_eq q qb]
      simp only [Option.bind_some]
      by_cases g : sg (rd xs i * rd ys b) (rd xs b * rd ys i) > 0
      · rw [if_pos g]
        have g' := sg_pos.1 g
        refine ih k (i + 1) i (by omega) (by omega) hok' (.inr ⟨by omega, ?_, ?_⟩)
        · intro j hj
          by_cases e : j = i
          · subst e; unfold le; omega
          · rcases hb with ⟨h, _⟩ | h
            · omega
            · have hj' := hok j (by omega)
              have := h.2.1 j (by omega)
              unfold okq at hj' q qb
              unfold le at this ⊢
              exact le_trans' (by omega) (by omega) (by omega) this (Int.le_of_lt g')
        · intro j hj
          rcases hb with ⟨h, _⟩ | h
          · omega
          · have hj' := hok j (by omega)
            have := h.2.1 j (by omega)
            unfold okq at hj' q qb
            unfold le at this
            unfold lt
            exact lt_of_le_lt (by omega) (by omega) (by omega) this g'
      · rw [if_neg g]
        have g' : ¬ rd xs b * rd ys i < rd xs i * rd ys b := fun h => g (sg_pos.2 h)
        refine ih k (i + 1) b (by omega) (by omega) hok' (.inr ⟨by omega, ?_, ?_⟩)
        · intro j hj
          by_cases e : j = i
          · subst e; unfold le; omega
          · rcases hb with ⟨h, _⟩ | h
            · omega
            · exact h.2.1 j (by omega)
        · intro j hj
          rcases hb with ⟨h, h'⟩ | h
          · omega
          · exact h.2.2 j hj
    · rw [quotient_no q]
      simp only [Option.bind_some, Bool.false_eq_true, if_false]
      exact ⟨fun h _ => absurd (h i hil) q, fun _ => by first | trivial | rfl⟩

theorem ref_may (xs ys : List Int) (hl : xs.length = ys.length) (hm : xs.length ≤ 4096) (d : Nat) : ∀ (k i : Nat), i + d = xs.length → d < k → (∀ j : Nat, j < i → okq (rd xs j) (rd ys j)) →
    (allok xs ys → stopcockref02_Best.l0 k xs ys (i : Int) = stopcockref02_Best.l1 (k - d - 1) xs ys 0) ∧
    (¬ allok xs ys → stopcockref02_Best.l0 k xs ys (i : Int) = some (0, 1)) := by
  induction d with
  | zero =>
    intro k i hd hk hok
    obtain ⟨k, rfl⟩ : ∃ m, k = m + 1 := ⟨k - 1, by omega⟩
    have hi : i = xs.length := by omega
    subst hi
    refine ⟨fun _ => ?_, fun hn => absurd hok hn⟩
    simp only [stopcockref02_Best.l0]
    rw [if_neg (by omega)]
    rfl
  | succ d ih =>
    intro k i hd hk hok
    obtain ⟨k, rfl⟩ : ∃ m, k = m + 1 := ⟨k - 1, by omega⟩
    have hil : i < xs.length := by omega
    have ew : wrap64 ((i : Int) + 1) = ((i + 1 : Nat) : Int) := by rw [w_id (by omega) (by omega)]; omega
    have ek : k + 1 - (d + 1) - 1 = k - d - 1 := by omega
    rw [ek]
    simp only [stopcockref02_Best.l0, ew]
    rw [if_pos (by omega), if_pos (by omega), if_pos (by omega)]
    by_cases q : okq (rd xs i) (rd ys i)
    · rw [May_yes q]
      simp only [Option.bind_some, if_true]
      refine ih k (i + 1) (by omega) (by omega) ?_
      intro j hj
      by_cases e : j = i
      · subst e; exact q
      · exact hok j (by omega)
    · rw [May_no q]
      simp only [Option.bind_some, Bool.false_eq_true, if_false]
      exact ⟨fun h => absurd (h i hil) q, fun _ => trivial⟩

/-- Is the quotient i, so far, not beaten by one of those from j on? -/
def good (xs ys : List Int) (i j : Nat) : Prop := ∀ k : Nat, k < j → le xs ys k i ∧ (k < i → lt xs ys k i)

open Classical in
theorem ref_inner (xs ys : List Int) (hl : xs.length = ys.length) (hm : xs.length ≤ 4096) (ha : allok xs ys) (i : Nat) (hi : i < xs.length) (d : Nat) : ∀ (k j : Nat) (b : Bool), j + d = xs.length → d + 2100000 < k → (b = true ↔ good xs ys i j) →
    stopcockref02_Best.l2 k xs ys (i : Int) b (j : Int) = if good xs ys i xs.length then some ((i : Int), 0) else stopcockref02_Best.l1 (k - d - 1) xs ys ((i + 1 : Nat) : Int) := by
  induction d with
  | zero =>
    intro k j b hd hk hb
    obtain ⟨k, rfl⟩ : ∃ m, k = m + 1 := ⟨k - 1, by omega⟩
    have hj : j = xs.length := by omega
    subst hj
    have ew : wrap64 ((i : Int) + 1) = ((i + 1 : Nat) : Int) := by rw [w_id (by omega) (by omega)]; omega
    simp only [stopcockref02_Best.l2, ew]
    rw [if_neg (by omega)]
    by_cases g : good xs ys i xs.length
    · rw [if_pos (hb.2 g), if_pos g]
    · rw [if_neg (fun h => g (hb.1 h)), if_neg g]
      rfl
  | succ d ih =>
    intro k j b hd hk hb
    obtain ⟨k, rfl⟩ : ∃ m, k = m + 1 := ⟨k - 1, by omega⟩
    have hjl : j < xs.length := by omega
    have ew : wrap64 ((j : Int) + 1) = ((j + 1 : Nat) : Int) := by rw [w_id (by omega) (by omega)]; omega
    have ek : k + 1 - (d + 1) - 1 = k - d - 1 := by omega
    rw [ek]
    simp only [stopcockref02_Best.l2, ew]
    rw [if_pos (by omega), if_pos (by omega), if_pos (by omega), if_pos (by omega), if_pos (by omega), if_pos (by omega), ref_yes (ha i hi) (ha j hjl) (by omega)]
    simp only [Option.bind_some]
    have hstep : good xs ys i (j + 1) ↔ good xs ys i j ∧ le xs ys j i ∧ (j < i → lt xs ys j i) := by
      unfold good
      refine ⟨fun h => ⟨fun k hk => h k (by omega), h j (by omega)⟩, fun h k hk => ?_⟩
      by_cases e : k = j
      · subst e; exact h.2
      · exact h.1 k (by omega)
    by_cases g : sg (rd xs i * rd ys j) (rd xs j * rd ys i) < 0
    · rw [if_pos g]
      have g' := sg_neg.1 g
      refine ih k (j + 1) false (by omega) (by omega) ⟨fun h => by simp at h, fun h => ?_⟩
      have := (hstep.1 h).2.1
      unfold le at this
      omega
    · rw [if_neg g]
      have g' : ¬ rd xs i * rd ys j < rd xs j * rd ys i := fun h => g (sg_neg.2 h)
      by_cases z : sg (rd xs i * rd ys j) (rd xs j * rd ys i) = 0
      · rw [if_pos z]
        have z' := sg_zero.1 z
        by_cases hji : j < i
        · rw [if_pos (by omega)]
          refine ih k (j + 1) false (by omega) (by omega) ⟨fun h => by simp at h, fun h => ?_⟩
          have := (hstep.1 h).2.2 hji
          unfold lt at this
          omega
        · rw [if_neg (by omega)]
          refine ih k (j + 1) b (by omega) (by omega) ?_
          rw [hb, hstep]
          exact ⟨fun h => ⟨h, by unfold le; omega, fun h => absurd h hji⟩, fun h => h.1⟩
      · rw [if_neg z]
        have z' : ¬ rd xs i * rd ys j = rd xs j * rd ys i := fun h => z (sg_zero.2 h)
        refine ih k (j + 1) b (by omega) (by omega) ?_
        rw [hb, hstep]
        exact ⟨fun h => ⟨h, by unfold le; omega, fun _ => by unfold lt; omega⟩, fun h => h.1⟩

theorem good_first {xs ys : List Int} {i : Nat} (hi : i < xs.length) : good xs ys i xs.length ↔ first xs ys xs.length i := by
  unfold good first
  refine ⟨fun h => ⟨hi, fun j hj => (h j hj).1, fun j hj => (h j (by omega)).2 hj⟩, fun h k hk => ⟨h.2.1 k hk, fun hki => h.2.2 k hki⟩⟩

theorem ref_outer (xs ys : List Int) (hl : xs.length = ys.length) (hm : xs.length ≤ 4096) (ha : allok xs ys) (r : Nat) (hr : first xs ys xs.length r) (C : Nat) (hC : 2200000 ≤ C) (d : Nat) : ∀ (k i : Nat), i + d = r → d * C + C ≤ k →
    stopcockref02_Best.l1 k xs ys (i : Int) = some ((r : Int), 0) := by
  induction d with
  | zero =>
    intro k i hd hk
    obtain ⟨k, rfl⟩ : ∃ m, k = m + 1 := ⟨k - 1, by omega⟩
    obtain rfl : i = r := by omega
    have hi := hr.1
    simp only [stopcockref02_Best.l1]
    rw [if_pos (by omega)]
    have := ref_inner xs ys hl hm ha i hi xs.length k 0 true (by omega) (by omega) ⟨fun _ k hk => by omega, fun _ => rfl⟩
    rw [if_pos ((good_first hi).2 hr)] at this
    exact this
  | succ d ih =>
    intro k i hd hk
    rw [Nat.succ_mul] at hk
    obtain ⟨k, rfl⟩ : ∃ m, k = m + 1 := ⟨k - 1, by omega⟩
    have hrl := hr.1
    have hi : i < xs.length := by omega
    simp only [stopcockref02_Best.l1]
    rw [if_pos (by omega)]
    have := ref_inner xs ys hl hm ha i hi xs.length k 0 true (by omega) (by omega) ⟨fun _ k hk => by omega, fun _ => rfl⟩
    rw [if_neg (fun h => by have := first_one ((good_first hi).1 h) hr; omega)] at this
    have h2 : stopcockref02_Best.l2 k xs ys (i : Int) true 0 = stopcockref02_Best.l1 (k - xs.length - 1) xs ys ((i + 1 : Nat) : Int) := this
    rw [h2]
    have h3 : d * C + C ≤ k - xs.length - 1 := by omega
    have h4 : i + 1 + d = r := by omega
    exact ih (k - xs.length - 1) (i + 1) h4 h3

theorem best_same (xs ys : List Int) : ∃ K r, ∀ k, K ≤ k → ratio_Best.f k xs ys = some r ∧ stopcockref02_Best.f k xs ys = some r := by
  by_cases h : xs.length = ys.length ∧ 0 < xs.length ∧ xs.length ≤ 4096
  · obtain ⟨h1, h2, h3⟩ := h
    have key := fun (k : Nat) (hk : 5000 ≤ k) => loop_best xs ys h1 h3 xs.length k 0 0 (by omega) (by omega) (fun j hj => by omega) (.inl ⟨rfl, rfl⟩)
    have kref := fun (k : Nat) (hk : 5000 ≤ k) => ref_may xs ys h1 h3 xs.length k 0 (by omega) (by omega) (fun j hj => by omega)
    have unf : ∀ k, ratio_Best.f (k + 1) xs ys = ratio_Best.l0 k xs ys ((0 : Nat) : Int) (xs.length : Int) ((0 : Nat) : Int) := by
      intro k
      unfold ratio_Best.f
      rw [if_pos (by omega), if_neg (by omega), decide_eq_false (by omega)]
      simp only [ratio_Best.j0, Bool.false_eq_true, if_false]
      rfl
    have unf' : ∀ k, stopcockref02_Best.f (k + 1) xs ys = stopcockref02_Best.l0 k xs ys ((0 : Nat) : Int) := by
      intro k
      unfold stopcockref02_Best.f
      rw [if_pos (by omega), if_neg (by omega), decide_eq_false (by omega)]
      simp only [stopcockref02_Best.j0, Bool.false_eq_true, if_false]
      rfl
    by_cases ha : allok xs ys
    · obtain ⟨r, _, hr⟩ := (key 5000 (by omega)).1 ha h2
      obtain ⟨C, hC⟩ : ∃ C : Nat, C = 2200000 := ⟨_, rfl⟩
      refine ⟨4096 * C + C + 10000, ((r : Int), 0), fun k hk => ?_⟩
      obtain ⟨k, rfl⟩ : ∃ m, k = m + 1 := ⟨k - 1, by omega⟩
      rw [unf, unf']
      obtain ⟨r', hr', hf⟩ := (key k (by omega)).1 ha h2
      obtain rfl := first_one hf hr
      refine ⟨hr', ?_⟩
      rw [(kref k (by omega)).1 ha]
      have hrl := hr.1
      have h5 : r' * C ≤ 4096 * C := Nat.mul_le_mul_right C (by omega)
      have h6 : r' * C + C ≤ k - xs.length - 1 := by omega
      exact ref_outer xs ys h1 h3 ha r' hr C (by omega) r' (k - xs.length - 1) 0 (by omega) h6
    · refine ⟨5001, (0, 1), fun k hk => ?_⟩
      obtain ⟨k, rfl⟩ : ∃ m, k = m + 1 := ⟨k - 1, by omega⟩
      rw [unf, unf']
      exact ⟨(key k (by omega)).2 ha, (kref k (by omega)).2 ha⟩
  · refine ⟨1, (0, 1), fun k hk => ?_⟩
    obtain ⟨k, rfl⟩ : ∃ m, k = m + 1 := ⟨k - 1, by omega⟩
    refine ⟨?_, ?_⟩
    · unfold ratio_Best.f
      by_cases h1 : xs.length = ys.length
      · rw [if_pos (by omega)]
        by_cases h2 : xs.length = 0
        · rw [if_pos (by omega)]
          simp only [ratio_Best.j0, if_true]
        · rw [if_neg (by omega), decide_eq_true (by omega)]
          simp only [ratio_Best.j0, if_true]
      · rw [if_neg (by omega)]
        simp only [ratio_Best.j0, if_true]
    · unfold stopcockref02_Best.f
      by_cases h1 : xs.length = ys.length
      · rw [if_pos (by omega)]
        by_cases h2 : xs.length = 0
        · rw [if_pos (by omega)]
          simp only [stopcockref02_Best.j0, if_true]
        · rw [if_neg (by omega), decide_eq_true (by omega)]
          simp only [stopcockref02_Best.j0, if_true]
      · rw [if_neg (by omega)]
        simp only [stopcockref02_Best.j0, if_true]

theorem best_law (xs ys : List Int) : ∃ K, ∀ k, K ≤ k → ((ratio_Best.f k xs ys).bind fun bt141 => ((stopcockref02_Best.f k xs ys).bind fun bt143 => ((stopcocklaw02_awake.f k).bind fun t145 => (if t145 = true then (if bt141.1 = bt143.1 then (some (bt141.2 == bt143.2)) else (some false)) else (some false))))) = some true := by
  obtain ⟨K1, r, h1⟩ := best_same xs ys
  obtain ⟨K2, h2⟩ := awake_ev
  refine ⟨K1 + K2, fun k hk => ?_⟩
  have g1 := h1 k (by omega)
  rw [g1.1, g1.2, h2 k (by omega)]
  simp

theorem RatioBest : stopcocklaw02_RatioBest.Pure := by
  intro xs ys _ _ _ _ _ _
  obtain ⟨K1, h1⟩ := best_law (xs.take 40) (ys.take 40)
  obtain ⟨K2, h2⟩ := best_law xs ys
  refine ⟨K1 + K2 + 1, ?_⟩
  unfold stopcocklaw02_RatioBest.f
  by_cases c1 : (xs.length : Int) > 40
  · rw [if_pos c1]
    by_cases c2 : (ys.length : Int) > 40
    · rw [decide_eq_true c2]
      simp only [stopcocklaw02_RatioBest.j0, if_true]
      rw [if_pos (by omega), if_pos (by omega)]
      exact h1 _ (by omega)
    · rw [decide_eq_false c2]
      simp only [stopcocklaw02_RatioBest.j0, Bool.false_eq_true, if_false]
      exact h2 _ (by omega)
  · rw [if_neg c1]
    simp only [stopcocklaw02_RatioBest.j0, Bool.false_eq_true, if_false]
    exact h2 _ (by omega)

end Go.Proofs.Ytnbgljphdkfmpaa.Pure
