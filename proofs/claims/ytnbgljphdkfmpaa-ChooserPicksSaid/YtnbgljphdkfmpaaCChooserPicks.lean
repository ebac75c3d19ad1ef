/- For any geometry, counts, ages and exclusions the program picks the segment that the reference picks. Condition: the list of exclusions takes no more than 140737488351232 bytes. -/
import Derived.DataShut
import Derived.Test.YtnbgljphdkfmpaaCh
import Derived.Test.YtnbgljphdkfmpaaPChooserPicksx5
namespace Go.Proofs.Ytnbgljphdkfmpaa.CChooserPicks
open Go.RowKit Go.Proofs.Ytnbgljphdkfmpaa.PChooserPicks Go.Proofs.YtnbgljphdkfmpaaW.PrintWords Go.Proofs.YtnbgljphdkfmpaaW.PrintLast

theorem w_id {n : Int} (h0 : -9223372036854775808 ≤ n) (h1 : n ≤ 9223372036854775807) : wrap64 n = n := by
  unfold wrap64
  omega

theorem mulb {a b A B : Int} (ha : 0 ≤ a) (hA : a ≤ A) (hb : 0 ≤ b) (hB : b ≤ B) : 0 ≤ a * b ∧ a * b ≤ A * B :=
  ⟨Int.mul_nonneg ha hb, Int.mul_le_mul hA hB hb (by omega)⟩

def okq (a b : Int) : Prop := 0 ≤ a ∧ a ≤ 1048576 ∧ 1 ≤ b ∧ b ≤ 1048576

theorem quotient_yes {a b : Int} (h : okq a b) : ratio_quotient.f a b = some true := by
  obtain ⟨h1, h2, h3, h4⟩ := h
  unfold ratio_quotient.f
  rw [if_pos h1, if_pos h2, if_pos h3, decide_eq_true h4]

theorem quotient_no {a b : Int} (h : ¬ okq a b) : ratio_quotient.f a b = some false := by
  unfold okq at h
  unfold ratio_quotient.f
  by_cases h1 : a ≥ 0
  · rw [if_pos h1]
    by_cases h2 : a ≤ 1048576
    · rw [if_pos h2]
      by_cases h3 : b ≥ 1
      · rw [if_pos h3, decide_eq_false (by omega)]
      · rw [if_neg h3]
    · rw [if_neg h2]
  · rw [if_neg h1]

def sg (x y : Int) : Int := if x < y then -1 else if x > y then 1 else 0

theorem sg_lt {x y : Int} (h : x < y) : sg x y = -1 := by unfold sg; rw [if_pos h]
theorem sg_gt {x y : Int} (h : y < x) : sg x y = 1 := by unfold sg; rw [if_neg (by omega), if_pos h]
theorem sg_eq {x y : Int} (h : x = y) : sg x y = 0 := by unfold sg; rw [if_neg (by omega), if_neg (by omega)]
theorem sg_flip (x y : Int) : sg x y = - sg y x := by
  by_cases h : x < y
  · rw [sg_lt h, sg_gt h]
  · by_cases h' : y < x
    · rw [sg_gt h', sg_lt h']; rfl
    · rw [sg_eq (by omega), sg_eq (by omega)]; rfl
theorem sg_pos {x y : Int} : 0 < sg x y ↔ y < x := by
  unfold sg
  split
  · omega
  · split <;> omega
theorem sg_neg {x y : Int} : sg x y < 0 ↔ x < y := by
  unfold sg
  split
  · omega
  · split <;> omega
theorem sg_zero {x y : Int} : sg x y = 0 ↔ x = y := by
  unfold sg
  split
  · omega
  · split <;> omega
theorem sg_bd (x y : Int) : -1 ≤ sg x y ∧ sg x y ≤ 1 := by
  unfold sg
  split
  · omega
  · split <;> omega

theorem cmp_eq (x y : Int) : cmp_Compare_int.f x y = some (sg x y) := by
  unfold cmp_Compare_int.f cmp_isNaN_int.f sg
  simp only [bne_self_eq_false, Option.bind_some, Bool.false_eq_true, if_false]
  by_cases h : x < y
  · rw [if_pos h, if_pos h]
  · rw [if_neg h, if_neg h]
    by_cases h' : x > y
    · rw [if_pos h', if_pos h']
    · rw [if_neg h', if_neg h']

theorem compare_eq {a b c d : Int} (h : okq a b) (k : okq c d) : ratio_compare.f a b c d = some (sg (a * d) (c * b)) := by
  unfold okq at h k
  have h1 := mulb h.1 h.2.1 (by omega : (0 : Int) ≤ d) k.2.2.2
  have h2 := mulb k.1 k.2.1 (by omega : (0 : Int) ≤ b) h.2.2.2
  unfold ratio_compare.f
  rw [w_id (by omega) (by omega), w_id (by omega) (by omega), cmp_eq]
  rfl

theorem May_yes {a b : Int} (h : okq a b) : stopcockref02_May.f a b = some true := by
  obtain ⟨h1, h2, h3, h4⟩ := h
  unfold stopcockref02_May.f
  rw [if_pos h1, if_pos h2, if_pos h3, decide_eq_true h4]

theorem May_no {a b : Int} (h : ¬ okq a b) : stopcockref02_May.f a b = some false := by
  unfold okq at h
  unfold stopcockref02_May.f
  by_cases h1 : a ≥ 0
  · rw [if_pos h1]
    by_cases h2 : a ≤ 1048576
    · rw [if_pos h2]
      by_cases h3 : b ≥ 1
      · rw [if_pos h3, decide_eq_false (by omega)]
      · rw [if_neg h3]
    · rw [if_neg h2]
  · rw [if_neg h1]

theorem sg_shift {a b c d p a' c' : Int} (ha : a = p * b + a') (hc : c = p * d + c') : sg (a * d) (c * b) = sg (a' * d) (c' * b) := by
  have e1 : a * d = a' * d + p * b * d := by rw [ha]; grind
  have e2 : c * b = c' * b + p * b * d := by rw [hc]; grind
  rw [e1, e2]
  unfold sg
  by_cases h : a' * d < c' * b
  · rw [if_pos h, if_pos (by omega)]
  · rw [if_neg h, if_neg (by omega)]
    by_cases h' : a' * d > c' * b
    · rw [if_pos h', if_pos (by omega)]
    · rw [if_neg h', if_neg (by omega)]

theorem quo_lt {a b c d p q : Int} (hb : 0 < b) (hd : 0 < d) (ha : a < p * b + b) (hc : q * d ≤ c) (h : p + 1 ≤ q) : a * d < c * b := by
  have h1 : a < (p + 1) * b := by rw [Int.add_mul]; omega
  have h2 : (p + 1) * d ≤ q * d := Int.mul_le_mul_of_nonneg_right h (by omega)
  have h3 : a * d < (p + 1) * b * d := Int.mul_lt_mul_of_pos_right h1 hd
  have h4 : (p + 1) * d * b ≤ c * b := Int.mul_le_mul_of_nonneg_right (by omega) (by omega)
  have h5 : (p + 1) * b * d = (p + 1) * d * b := by grind
  omega

theorem ref_loop (n : Nat) : ∀ (k : Nat) (a b c d s : Int), okq a b → okq c d → b ≤ n → (s = 1 ∨ s = -1) → 2 * n < k →
    stopcockref02_Compare.l0 k a b c d s = some (s * sg (a * d) (c * b), 0) := by
  induction n with
  | zero =>
    intro k a b c d s h1 _ h3
    unfold okq at h1
    omega
  | succ n ih =>
    intro k a b c d s h1 h2 h3 hs hk
    obtain ⟨k, rfl⟩ : ∃ m, k = m + 1 := ⟨k - 1, by omega⟩
    have o1 := h1
    have o2 := h2
    unfold okq at o1 o2
    have ta : Int.tdiv a b = a / b := Int.tdiv_eq_ediv_of_nonneg (by omega)
    have tc : Int.tdiv c d = c / d := Int.tdiv_eq_ediv_of_nonneg (by omega)
    have pa : 0 ≤ a / b := Int.ediv_nonneg (by omega) (by omega)
    have pc : 0 ≤ c / d := Int.ediv_nonneg (by omega) (by omega)
    have qa : a / b ≤ a := Int.ediv_le_self _ (by omega)
    have qc : c / d ≤ c := Int.ediv_le_self _ (by omega)
    have ea : a / b * b + a % b = a := Int.ediv_mul_add_emod a b
    have ec : c / d * d + c % d = c := Int.ediv_mul_add_emod c d
    have ra : 0 ≤ a % b := Int.emod_nonneg _ (by omega)
    have rc : 0 ≤ c % d := Int.emod_nonneg _ (by omega)
    have la : a % b < b := Int.emod_lt_of_pos _ (by omega)
    have lc : c % d < d := Int.emod_lt_of_pos _ (by omega)
    have w1 : wrap64 (Int.tdiv a b) = a / b := by rw [ta]; exact w_id (by omega) (by omega)
    have w2 : wrap64 (Int.tdiv c d) = c / d := by rw [tc]; exact w_id (by omega) (by omega)
    have w3 : wrap64 (a - wrap64 (a / b * b)) = a % b := by
      rw [w_id (n := a / b * b) (by omega) (by omega), w_id (by omega) (by omega)]; omega
    have w4 : wrap64 (c - wrap64 (c / d * d)) = c % d := by
      rw [w_id (n := c / d * d) (by omega) (by omega), w_id (by omega) (by omega)]; omega
    have ws : wrap64 (-s) = -s := w_id (by omega) (by omega)
    simp only [stopcockref02_Compare.l0, w1, w2, w3, w4, ws]
    rw [if_neg (by omega), if_neg (by omega)]
    by_cases hpq : a / b = c / d
    · rw [if_pos hpq]
      have esg : sg (a * d) (c * b) = sg (a % b * d) (c % d * b) := sg_shift ea.symm (by rw [hpq]; exact ec.symm)
      rw [esg]
      obtain ⟨k, rfl⟩ : ∃ m, k = m + 1 := ⟨k - 1, by omega⟩
      by_cases z1 : a % b = 0
      · rw [if_pos z1]
        by_cases z2 : c % d = 0
        · rw [sg_eq (by rw [z1, z2]; simp)]
          simp only [stopcockref02_Compare.j2, z2, beq_self_eq_true, if_true, Int.mul_zero]
        · have hm : 0 < c % d * b := Int.mul_pos (by omega) (by omega)
          have hz : (c % d == 0) = false := by simpa using z2
          rw [sg_lt (by rw [z1]; omega)]
          simp only [stopcockref02_Compare.j2, hz, Bool.false_eq_true, if_false, z1, if_true, ws]
          congr 2
          omega
      · rw [if_neg z1]
        simp only [stopcockref02_Compare.j2, Bool.false_eq_true, if_false, ws]
        rw [if_neg z1]
        by_cases z2 : c % d = 0
        · have hm : 0 < a % b * d := Int.mul_pos (by omega) (by omega)
          rw [if_pos z2, sg_gt (by rw [z2]; omega)]
          congr 2
          omega
        · rw [if_neg z2]
          rw [ih k b (a % b) d (c % d) (-s) (by unfold okq; omega) (by unfold okq; omega) (by omega) (by omega) (by omega)]
          rw [sg_flip (a % b * d) (c % d * b), Int.mul_comm b (c % d), Int.mul_comm d (a % b)]
          congr 2
          grind
    · rw [if_neg hpq]
      by_cases hgt : a / b > c / d
      · rw [if_pos hgt, sg_gt (quo_lt (p := c / d) (q := a / b) (by omega) (by omega) (by omega) (by omega) (by omega))]
        congr 2
        omega
      · rw [if_neg hgt, sg_lt (quo_lt (p := a / b) (q := c / d) (by omega) (by omega) (by omega) (by omega) (by omega))]
        congr 2
        omega

theorem ref_yes {a b c d : Int} (h : okq a b) (h' : okq c d) {k : Nat} (hk : 2100000 ≤ k) : stopcockref02_Compare.f k a b c d = some (sg (a * d) (c * b), 0) := by
  obtain ⟨k, rfl⟩ : ∃ m, k = m + 1 := ⟨k - 1, by omega⟩
  have o1 := h
  unfold okq at o1
  have hl := ref_loop 1048576 k a b c d 1 h h' (by omega) (.inl rfl) (by omega)
  unfold stopcockref02_Compare.f
  simp only [May_yes h, May_yes h', Option.bind_some, if_true, stopcockref02_Compare.j0, Bool.not_true, Bool.false_eq_true, if_false]
  rw [hl, Int.one_mul]

theorem ref_no {a b c d : Int} (h : ¬ (okq a b ∧ okq c d)) {k : Nat} (hk : 2100000 ≤ k) : stopcockref02_Compare.f k a b c d = some (0, 1) := by
  obtain ⟨k, rfl⟩ : ∃ m, k = m + 1 := ⟨k - 1, by omega⟩
  unfold stopcockref02_Compare.f
  by_cases h1 : okq a b
  · have h2 : ¬ okq c d := fun k => h ⟨h1, k⟩
    simp only [May_yes h1, May_no h2, Option.bind_some, if_true, stopcockref02_Compare.j0, Bool.not_false]
  · simp only [May_no h1, Option.bind_some, Bool.false_eq_true, if_false, stopcockref02_Compare.j0, if_true]
/-- The quotient i is at most the quotient j. -/
def le (xs ys : List Int) (i j : Nat) : Prop := rd xs i * rd ys j ≤ rd xs j * rd ys i
def lt (xs ys : List Int) (i j : Nat) : Prop := rd xs i * rd ys j < rd xs j * rd ys i

theorem le_trans' {a b c d m n : Int} (hb : 0 < b) (hd : 0 < d) (hn : 0 < n) (h1 : a * d ≤ c * b) (h2 : c * n ≤ m * d) : a * n ≤ m * b := by
  have e1 : a * d * n ≤ c * b * n := Int.mul_le_mul_of_nonneg_right h1 (by omega)
  have e2 : c * n * b ≤ m * d * b := Int.mul_le_mul_of_nonneg_right h2 (by omega)
  have e3 : c * b * n = c * n * b := by grind
  have e4 : a * d * n = a * n * d := by grind
  have e5 : m * d * b = m * b * d := by grind
  have e6 : a * n * d ≤ m * b * d := by omega
  exact Int.le_of_mul_le_mul_right e6 hd

theorem lt_of_le_lt {a b c d m n : Int} (hb : 0 < b) (hd : 0 < d) (hn : 0 < n) (h1 : a * d ≤ c * b) (h2 : c * n < m * d) : a * n < m * b := by
  have e1 : a * d * n ≤ c * b * n := Int.mul_le_mul_of_nonneg_right h1 (by omega)
  have e2 : c * n * b < m * d * b := Int.mul_lt_mul_of_pos_right h2 hb
  have e3 : c * b * n = c * n * b := by grind
  have e4 : a * d * n = a * n * d := by grind
  have e5 : m * d * b = m * b * d := by grind
  have e6 : a * n * d < m * b * d := by omega
  exact Int.lt_of_mul_lt_mul_right e6 (by omega)

/-- All quotients may be. -/
def allok (xs ys : List Int) : Prop := ∀ i : Nat, i < xs.length → okq (rd xs i) (rd ys i)

/-- The first of the greatest of the first n. -/
def first (xs ys : List Int) (n b : Nat) : Prop := b < n ∧ (∀ i : Nat, i < n → le xs ys i b) ∧ (∀ i : Nat, i < b → lt xs ys i b)

theorem first_one {xs ys : List Int} {n b c : Nat} (h : first xs ys n b) (h' : first xs ys n c) : b = c := by
  obtain ⟨h1, h2, h3⟩ := h
  obtain ⟨k1, k2, k3⟩ := h'
  unfold le at h2 k2
  unfold lt at h3 k3
  by_cases g : b < c
  · have := k3 b g
    have := h2 c k1
    omega
  · by_cases g' : c < b
    · have := h3 c g'
      have := k2 b h1
      omega
    · omega

theorem loop_best (xs ys : List Int) (hl : xs.length = ys.length) (hm : xs.length ≤ 4096) (d : Nat) : ∀ (k i b : Nat), i + d = xs.length → d < k → (∀ j : Nat, j < i → okq (rd xs j) (rd ys j)) →
    ((i = 0 ∧ b = 0) ∨ first xs ys i b) →
    (allok xs ys → 0 < xs.length → ∃ r : Nat, ratio_Best.l0 k xs ys (b : Int) (xs.length : Int) (i : Int) = some ((r : Int), 0) ∧ first xs ys xs.length r) ∧
    (¬ allok xs ys → ratio_Best.l0 k xs ys (b : Int) (xs.length : Int) (i : Int) = some (0, 1)) := by
  induction d with
  | zero =>
    intro k i b hd hk hok hb
    obtain ⟨k, rfl⟩ : ∃ m, k = m + 1 := ⟨k - 1, by omega⟩
    have hi : i = xs.length := by omega
    subst hi
    refine ⟨fun _ h0 => ⟨b, ?_, ?_⟩, fun hn => absurd hok hn⟩
    · simp only [ratio_Best.l0]
      rw [if_neg (by omega)]
    · rcases hb with ⟨h, _⟩ | h
      · omega
      · exact h
  | succ d ih =>
    intro k i b hd hk hok hb
    obtain ⟨k, rfl⟩ : ∃ m, k = m + 1 := ⟨k - 1, by omega⟩
    have hil : i < xs.length := by omega
    have hbi : b ≤ i := by rcases hb with ⟨h, h'⟩ | h; omega; have := h.1; omega
    have ew : wrap64 ((i : Int) + 1) = ((i + 1 : Nat) : Int) := by rw [w_id (by omega) (by omega)]; omega
    simp only [ratio_Best.l0, ew]
    rw [if_pos (by omega), if_pos (by omega), if_pos (by omega), if_pos (by omega)]
    by_cases q : okq (rd xs i) (rd ys i)
    · have hok' : ∀ j : Nat, j < i + 1 → okq (rd xs j) (rd ys j) := by
        intro j hj
        by_cases e : j = i
        · subst e; exact q
        · exact hok j (by omega)
      have qb : okq (rd xs b) (rd ys b) := hok' b (by omega)
      rw [quotient_yes q]
      simp only [Option.bind_some, if_true]
      rw [if_pos (by omega), if_pos (by omega), if_pos (by omega), compare_eq q qb]
      simp only [Option.bind_some]
      by_cases g : sg (rd xs i * rd ys b) (rd xs b * rd ys i) > 0
      · rw [if_pos g]
        have g' := sg_pos.1 g
        refine ih k (i + 1) i (by omega) (by omega) hok' (.inr ⟨by omega, ?_, ?_⟩)
        · intro j hj
          by_cases e : j = i
          · subst e; unfold le; omega
          · rcases hb with ⟨h, _⟩ | h
            · omega
            · have hj' := hok j (by omega)
              have := h.2.1 j (by omega)
              unfold okq at hj' q qb
              unfold le at this ⊢
              exact le_trans' (by omega) (by omega) (by omega) this (Int.le_of_lt g')
        · intro j hj
          rcases hb with ⟨h, _⟩ | h
          · omega
          · have hj' := hok j (by omega)
            have := h.2.1 j (by omega)
            unfold okq at hj' q qb
            unfold le at this
            unfold lt
            exact lt_of_le_lt (by omega) (by omega) (by omega) this g'
      · rw [if_neg g]
        have g' : ¬ rd xs b * rd ys i < rd xs i * rd ys b := fun h => g (sg_pos.2 h)
        refine ih k (i + 1) b (by omega) (by omega) hok' (.inr ⟨by omega, ?_, ?_⟩)
        · intro j hj
          by_cases e : j = i
          · subst e; unfold le; omega
          · rcases hb with ⟨h, _⟩ | h
            · omega
            · exact h.2.1 j (by omega)
        · intro j hj
          rcases hb with ⟨h, h'⟩ | h
          · omega
          · exact h.2.2 j hj
    · rw [quotient_no q]
      simp only [Option.bind_some, Bool.false_eq_true, if_false]
      exact ⟨fun h _ => absurd (h i hil) q, fun _ => by first | trivial | rfl⟩

theorem score_yes {x n k : Int} (hn : 2 ≤ n) (hn' : n ≤ 16) (hx : 0 ≤ x) (hx' : x ≤ n) (hk : 0 ≤ k) (hk' : k ≤ 65535) :
    ratio_Score.f x n k = some ((n - x) * (k + 1), n + x, 0) := by
  have m := mulb (by omega : (0 : Int) ≤ n - x) (by omega : n - x ≤ 16) (by omega : (0 : Int) ≤ k + 1) (by omega : k + 1 ≤ 65536)
  unfold ratio_Score.f
  rw [if_neg (by omega), if_neg (by omega), if_neg (by omega), if_neg (by omega), if_neg (by omega), if_neg (by omega)]
  rw [w_id (n := n - x) (by omega) (by omega), w_id (n := k + 1) (by omega) (by omega), w_id (n := n + x) (by omega) (by omega), w_id (by omega) (by omega)]

theorem score_ok {x n k : Int} (hn : 2 ≤ n) (hn' : n ≤ 16) (hx : 0 ≤ x) (hx' : x ≤ n) (hk : 0 ≤ k) (hk' : k ≤ 65535) : okq ((n - x) * (k + 1)) (n + x) := by
  have m := mulb (by omega : (0 : Int) ≤ n - x) (by omega : n - x ≤ 16) (by omega : (0 : Int) ≤ k + 1) (by omega : k + 1 ≤ 65536)
  unfold okq
  omega


theorem score_no {x n k : Int} (hk : k < 0 ∨ 65535 < k) : ∃ e, ratio_Score.f x n k = some (0, 0, e) ∧ e = 1 := by
  refine ⟨1, ?_, rfl⟩
  unfold ratio_Score.f
  by_cases h1 : n < 2
  · rw [if_pos h1]
  rw [if_neg h1]
  by_cases h2 : n > 16
  · rw [if_pos h2]
  rw [if_neg h2]
  by_cases h3 : x < 0
  · rw [if_pos h3]
  rw [if_neg h3]
  by_cases h4 : x > n
  · rw [if_pos h4]
  rw [if_neg h4]
  by_cases h5 : k < 0
  · rw [if_pos h5]
  rw [if_neg h5, if_pos (by omega)]

/-- The two numbers of a segment's score. -/
def ov (b : Int) (live age : List Int) (i : Nat) : Int := (b - rd live i) * (rd age i + 1)
def un (b : Int) (live : List Int) (i : Nat) : Int := b + rd live i

def ageok (age : List Int) : Prop := ∀ i : Nat, i < age.length → 0 ≤ rd age i ∧ rd age i ≤ 65535
def liveok (b : Int) (live : List Int) : Prop := ∀ i : Nat, i < live.length → 0 ≤ rd live i ∧ rd live i ≤ b

/-- A candidate. -/
def cand (b : Int) (live but : List Int) (i : Nat) : Prop := i < live.length ∧ 0 < rd live i ∧ rd live i < b ∧ ∀ m : Nat, m < but.length → rd but m ≠ (i : Int)

/-- The segment that is picked: no candidate is worth more, none ahead of it as much. -/
def isPick (b : Int) (live age but : List Int) (p : Nat) : Prop :=
  cand b live but p ∧ ∀ j, cand b live but j → ov b live age j * un b live p ≤ ov b live age p * un b live j ∧ (j < p → ov b live age j * un b live p < ov b live age p * un b live j)

theorem pick_one {b : Int} {live age but : List Int} {p q : Nat} (h : isPick b live age but p) (h' : isPick b live age but q) : p = q := by
  obtain ⟨h1, h2⟩ := h
  obtain ⟨k1, k2⟩ := h'
  by_cases g : p < q
  · have := (k2 p h1).2 g
    have := (h2 q k1).1
    omega
  · by_cases g' : q < p
    · have := (h2 q k1).2 g'
      have := (k2 p h1).1
      omega
    · omega

theorem rd_map {α : Type} (f : α → Int) (xs : List α) (i : Nat) (h : i < xs.length) : rd (xs.map f) (i : Int) = f xs[i] := by
  unfold rd
  rw [Int.toNat_natCast, List.getD_eq_getElem?_getD, List.getElem?_map, List.getElem?_eq_getElem h]
  rfl

theorem l1_skip {age but x10 x11 x12 live : List Int} {s b x13 x14 x15 x16 x34 x35 : Int} {r : Int × Int} {K : Nat} (hl : but.length * 8 ≤ 140737488351232)
    (skip : ∀ k, K ≤ k → chooser_Pick.l0 k age but x10 x11 x12 live x34 (wrap64 (x35 + 1)) s b = some r) (d : Nat) : ∀ (j k : Nat), j + d = but.length → K + d + 1 ≤ k →
    ((∃ m : Nat, j ≤ m ∧ m < but.length ∧ rd but m = x13) ∨ ¬ (0 < x14 ∧ x14 < b)) →
    chooser_Pick.l1 k age but x10 x11 x12 x13 x14 x15 x16 live x34 x35 but (but.length : Int) (j : Int) s b = some r := by
  induction d with
  | zero =>
    intro j k hd hk hc
    obtain ⟨k, rfl⟩ : ∃ m, k = m + 1 := ⟨k - 1, by omega⟩
    simp only [chooser_Pick.l1]
    rw [if_neg (by omega)]
    have hc' : ¬ (0 < x14 ∧ x14 < b) := by
      rcases hc with ⟨m, h1, h2, _⟩ | h
      · omega
      · exact h
    by_cases g : x14 > 0
    · rw [if_pos g, if_neg (by omega)]
      exact skip k (by omega)
    · rw [if_neg g]
      exact skip k (by omega)
  | succ d ih =>
    intro j k hd hk hc
    obtain ⟨k, rfl⟩ : ∃ m, k = m + 1 := ⟨k - 1, by omega⟩
    have ew : Aside0 (wrap64 ((j : Int) + 1) = ((j + 1 : Nat) : Int)) := Aside0.mk (by rw [w_id (by omega) (by omega)]; omega)
    simp only [chooser_Pick.l1, ew.out]
    rw [if_pos (by omega), if_pos (by omega), if_pos (by omega)]
    by_cases g : rd but (j : Int) = x13
    · rw [if_pos g]
      exact skip k (by omega)
    · rw [if_neg g]
      refine ih (j + 1) k (by omega) (by omega) ?_
      rcases hc with ⟨m, h1, h2, h3⟩ | h
      · refine .inl ⟨m, ?_, h2, h3⟩
        by_cases e : m = j
        · subst e; exact absurd h3 g
        · omega
      · exact .inr h

theorem l1_take {age but x10 x11 x12 live : List Int} {s b x13 x14 x15 x16 x34 x35 : Int} {r : Int × Int} {K : Nat} (hl : but.length * 8 ≤ 140737488351232)
    (h10 : x10.length ≤ 24) (h11 : x11.length ≤ 24) (h12 : x12.length ≤ 24)
    (take : ∀ k, K ≤ k → chooser_Pick.l0 k age but (x10 ++ [x15]) (x11 ++ [x16]) (x12 ++ [x13]) live x34 (wrap64 (x35 + 1)) s b = some r) (d : Nat) : ∀ (j k : Nat), j + d = but.length → K + d + 1 ≤ k →
    (∀ m : Nat, j ≤ m → m < but.length → rd but m ≠ x13) → 0 < x14 → x14 < b →
    chooser_Pick.l1 k age but x10 x11 x12 x13 x14 x15 x16 live x34 x35 but (but.length : Int) (j : Int) s b = some r := by
  induction d with
  | zero =>
    intro j k hd hk hc h0 hb
    obtain ⟨k, rfl⟩ : ∃ m, k = m + 1 := ⟨k - 1, by omega⟩
    have f1 : ¬ (j : Int) < (but.length : Int) := by omega
    have f2 : x10.length < 17592186044416 := Nat.lt_of_le_of_lt h10 (by decide)
    have f3 : x11.length < 17592186044416 := Nat.lt_of_le_of_lt h11 (by decide)
    have f4 : x12.length < 17592186044416 := Nat.lt_of_le_of_lt h12 (by decide)
    have f5 : K ≤ k := by omega
    simp only [chooser_Pick.l1]
    rw [if_neg f1, if_pos h0, if_pos hb, if_pos f2, if_pos f3, if_pos f4]
    exact take k f5
  | succ d ih =>
    intro j k hd hk hc h0 hb
    obtain ⟨k, rfl⟩ : ∃ m, k = m + 1 := ⟨k - 1, by omega⟩
    have ew : Aside0 (wrap64 ((j : Int) + 1) = ((j + 1 : Nat) : Int)) := Aside0.mk (by rw [w_id (by omega) (by omega)]; omega)
    have f1 : (j : Int) < (but.length : Int) := by omega
    have f2 : (0 : Int) ≤ (j : Int) := Int.natCast_nonneg j
    have f3 : j < but.length := by omega
    simp only [chooser_Pick.l1, ew.out]
    rw [if_pos f1, if_pos f2, if_pos f1, if_neg (hc j (Nat.le_refl _) f3)]
    exact ih (j + 1) k (by omega) (by omega) (fun m h1 h2 => hc m (Nat.le_of_succ_le h1) h2) h0 hb

/-- An age that may not be is found, whatever was collected. -/
theorem l0_bad {s b : Int} {live age but : List Int} (hl : but.length * 8 ≤ 140737488351232) (hb : 2 ≤ b) (hb' : b ≤ 16) (hn : live.length ≤ 24) (ha : age.length = live.length) (hv : liveok b live) (d : Nat) :
    ∀ (i : Nat) (x10 x11 x12 : List Int), i + d = live.length → x10.length ≤ i → x11.length ≤ i → x12.length ≤ i → (∃ m : Nat, i ≤ m ∧ m < age.length ∧ ¬ (0 ≤ rd age m ∧ rd age m ≤ 65535)) →
    ∃ K, ∀ k, K ≤ k → chooser_Pick.l0 k age but x10 x11 x12 live (live.length : Int) (i : Int) s b = some (0, 1) := by
  induction d with
  | zero =>
    intro i x10 x11 x12 hd _ _ _ ⟨m, h1, h2, _⟩
    omega
  | succ d ih =>
    intro i x10 x11 x12 hd h10 h11 h12 hm
    have ew : Aside0 (wrap64 ((i : Int) + 1) = ((i + 1 : Nat) : Int)) := Aside0.mk (by rw [w_id (by omega) (by omega)]; omega)
    by_cases g : 0 ≤ rd age i ∧ rd age i ≤ 65535
    · have hm' : ∃ m : Nat, i + 1 ≤ m ∧ m < age.length ∧ ¬ (0 ≤ rd age m ∧ rd age m ≤ 65535) := by
        obtain ⟨m, h1, h2, h3⟩ := hm
        refine ⟨m, ?_, h2, h3⟩
        by_cases e : m = i
        · subst e; exact absurd g h3
        · omega
      have hvi := hv i (by omega)
      have hs := score_yes (x := rd live i) (n := b) (k := rd age i) hb hb' hvi.1 hvi.2 g.1 g.2
      obtain ⟨K1, hK1⟩ := ih (i + 1) x10 x11 x12 (by omega) (by omega) (by omega) (by omega) hm'
      obtain ⟨K2, hK2⟩ := ih (i + 1) (x10 ++ [(b - rd live i) * (rd age i + 1)]) (x11 ++ [b + rd live i]) (x12 ++ [(i : Int)]) (by omega) (by simp; omega) (by simp; omega) (by simp; omega) hm'
      rw [← ew.out] at hK1 hK2
      refine ⟨K1 + K2 + but.length + 2, fun k hk => ?_⟩
      obtain ⟨k, rfl⟩ : ∃ m, k = m + 1 := ⟨k - 1, by omega⟩
      simp only [chooser_Pick.l0]
      rw [if_pos (by omega), if_pos (by omega), if_pos (by omega), if_pos (by omega), hs]
      simp only [Option.bind_some, if_true]
      by_cases c : (∃ m : Nat, 0 ≤ m ∧ m < but.length ∧ rd but m = (i : Int)) ∨ ¬ (0 < rd live i ∧ rd live i < b)
      · exact l1_skip hl hK1 but.length 0 k (by omega) (by omega) c
      · have c1 : ∀ m : Nat, 0 ≤ m → m < but.length → rd but m ≠ (i : Int) := fun m h1 h2 h3 => c (.inl ⟨m, h1, h2, h3⟩)
        have c2 : 0 < rd live i ∧ rd live i < b := Classical.not_not.1 (fun h => c (.inr h))
        exact l1_take hl (by omega) (by omega) (by omega) hK2 but.length 0 k (by omega) (by omega) c1 c2.1 c2.2
    · obtain ⟨e, hs, he⟩ := score_no (x := rd live i) (n := b) (k := rd age i) (by omega)
      subst he
      refine ⟨1, fun k hk => ?_⟩
      obtain ⟨k, rfl⟩ : ∃ m, k = m + 1 := ⟨k - 1, by omega⟩
      simp only [chooser_Pick.l0]
      rw [if_pos (by omega), if_pos (by omega), if_pos (by omega), if_pos (by omega), hs]
      simp only [Option.bind_some]
      rw [if_neg (by omega)]

/-- What has been collected ahead of segment i. -/
def coll (b : Int) (live but : List Int) (i : Nat) (ws : List Nat) : Prop := (∀ j, j ∈ ws ↔ cand b live but j ∧ j < i) ∧ ws.Pairwise (· < ·) ∧ ws.length ≤ i

def good (b : Int) (live age but : List Int) (R : Int × Int) : Prop := (R = (0, 4) ∧ ∀ j, ¬ cand b live but j) ∨ ∃ p : Nat, R = ((p : Int), 0) ∧ isPick b live age but p

theorem ends {s b : Int} {live age but : List Int} (hb : 2 ≤ b) (hb' : b ≤ 16) (hn : live.length ≤ 24) (ha : age.length = live.length) (hv : liveok b live) (hg : ageok age) (ws : List Nat) (hw : coll b live but live.length ws) :
    ∃ R, good b live age but R ∧ ∃ K, ∀ k, K ≤ k → chooser_Pick.l0 k age but (ws.map (ov b live age)) (ws.map (un b live)) (ws.map (fun i : Nat => (i : Int))) live (live.length : Int) (live.length : Int) s b = some R := by
  obtain ⟨hw1, hw2, hw3⟩ := hw
  by_cases hz : ws = []
  · subst hz
    refine ⟨(0, 4), .inl ⟨rfl, fun j hj => ?_⟩, 1, fun k hk => ?_⟩
    · have := (hw1 j).2 ⟨hj, hj.1⟩
      simp at this
    · obtain ⟨k, rfl⟩ : ∃ m, k = m + 1 := ⟨k - 1, by omega⟩
      simp only [chooser_Pick.l0]
      rw [if_neg (by omega)]
      simp
  · have hp : 0 < ws.length := List.length_pos_iff.2 hz
    have hok : allok (ws.map (ov b live age)) (ws.map (un b live)) := by
      intro i hi
      rw [List.length_map] at hi
      rw [rd_map _ _ _ hi, rd_map _ _ _ hi]
      have hc := ((hw1 ws[i]).1 (List.getElem_mem hi)).1
      have h1 := hv ws[i] hc.1
      have h2 := hg ws[i] (by have := hc.1; omega)
      exact score_ok hb hb' h1.1 h1.2 h2.1 h2.2
    have key := fun (k : Nat) (hk : 5000 ≤ k) => (loop_best (ws.map (ov b live age)) (ws.map (un b live)) (by simp) (by simp; omega) ws.length k 0 0 (by simp) (by omega) (fun j hj => by omega) (.inl ⟨rfl, rfl⟩)).1 hok (by simpa using hp)
    obtain ⟨r, _, hr⟩ := key 5000 (by omega)
    obtain ⟨hr1, hr2, hr3⟩ := hr
    have hrl : r < ws.length := by simpa using hr1
    have hcr := ((hw1 ws[r]).1 (List.getElem_mem hrl)).1
    refine ⟨((ws[r] : Nat), 0), .inr ⟨ws[r], rfl, hcr, fun j hj => ?_⟩, 5002, fun k hk => ?_⟩
    · obtain ⟨m, hm, rfl⟩ := List.getElem_of_mem ((hw1 j).2 ⟨hj, hj.1⟩)
      have q1 := hr2 m (by simpa using hm)
      unfold le at q1
      rw [rd_map _ _ _ hm, rd_map _ _ _ hrl, rd_map _ _ _ hrl, rd_map _ _ _ hm] at q1
      refine ⟨q1, fun hlt => ?_⟩
      have hmr : m < r := by
        by_cases e : m < r
        · exact e
        · by_cases e' : m = r
          · subst e'; omega
          · have := List.pairwise_iff_getElem.1 hw2 r m hrl hm (by omega)
            omega
      have q2 := hr3 m hmr
      unfold lt at q2
      rw [rd_map _ _ _ hm, rd_map _ _ _ hrl, rd_map _ _ _ hrl, rd_map _ _ _ hm] at q2
      exact q2
    · obtain ⟨k, rfl⟩ : ∃ m, k = m + 2 := ⟨k - 2, by omega⟩
      obtain ⟨r', h1, h2⟩ := key k (by omega)
      obtain rfl := first_one h2 ⟨hr1, hr2, hr3⟩
      simp only [chooser_Pick.l0]
      rw [if_neg (by omega), if_neg (by simp; omega)]
      have hbest : ratio_Best.f (k + 1) (ws.map (ov b live age)) (ws.map (un b live)) = some ((r' : Int), 0) := by
        unfold ratio_Best.f
        rw [if_pos (by simp), if_neg (by simp; omega), decide_eq_false (by simp; omega)]
        simp only [ratio_Best.j0, Bool.false_eq_true, if_false]
        exact h1
      rw [hbest]
      simp only [Option.bind_some]
      rw [if_pos (by omega), if_pos (by simp; omega), rd_map _ _ _ hrl]

theorem l0_good {s b : Int} {live age but : List Int} (hl : but.length * 8 ≤ 140737488351232) (hb : 2 ≤ b) (hb' : b ≤ 16) (hn : live.length ≤ 24) (ha : age.length = live.length) (hv : liveok b live) (hg : ageok age) (d : Nat) :
    ∀ (i : Nat) (ws : List Nat), i + d = live.length → coll b live but i ws →
    ∃ R, good b live age but R ∧ ∃ K, ∀ k, K ≤ k → chooser_Pick.l0 k age but (ws.map (ov b live age)) (ws.map (un b live)) (ws.map (fun i : Nat => (i : Int))) live (live.length : Int) (i : Int) s b = some R := by
  induction d with
  | zero =>
    intro i ws hd hw
    obtain rfl : i = live.length := by omega
    exact ends hb hb' hn ha hv hg ws hw
  | succ d ih =>
    intro i ws hd hw
    have ew : Aside0 (wrap64 ((i : Int) + 1) = ((i + 1 : Nat) : Int)) := Aside0.mk (by rw [w_id (by omega) (by omega)]; omega)
    have hvi := hv i (by omega)
    have hgi := hg i (by omega)
    have hs := score_yes (x := rd live i) (n := b) (k := rd age i) hb hb' hvi.1 hvi.2 hgi.1 hgi.2
    obtain ⟨hw1, hw2, hw3⟩ := hw
    by_cases c : cand b live but i
    · have hw' : coll b live but (i + 1) (ws ++ [i]) := by
        refine ⟨fun j => ?_, ?_, by simp; omega⟩
        · rw [List.mem_append, List.mem_singleton, hw1 j]
          refine ⟨fun h => ?_, fun h => ?_⟩
          · rcases h with h | h
            · exact ⟨h.1, by omega⟩
            · subst h; exact ⟨c, by omega⟩
          · by_cases e : j = i
            · exact .inr e
            · exact .inl ⟨h.1, by omega⟩
        · rw [List.pairwise_append]
          refine ⟨hw2, List.pairwise_singleton _ _, fun x hx y hy => ?_⟩
          rw [List.mem_singleton] at hy
          subst hy
          exact ((hw1 x).1 hx).2
      obtain ⟨R, hR, K, hK⟩ := ih (i + 1) (ws ++ [i]) (by omega) hw'
      rw [← ew.out, List.map_append, List.map_append, List.map_append] at hK
      refine ⟨R, hR, K + but.length + 2, fun k hk => ?_⟩
      obtain ⟨k, rfl⟩ : ∃ m, k = m + 1 := ⟨k - 1, by omega⟩
      simp only [chooser_Pick.l0]
      rw [if_pos (by omega), if_pos (by omega), if_pos (by omega), if_pos (by omega), hs]
      simp only [Option.bind_some, if_true]
      exact l1_take hl (by simp; omega) (by simp; omega) (by simp; omega) hK but.length 0 k (by omega) (by omega) (fun m _ h2 => c.2.2.2 m h2) c.2.1 c.2.2.1
    · have hw' : coll b live but (i + 1) ws := by
        refine ⟨fun j => ?_, hw2, by omega⟩
        rw [hw1 j]
        refine ⟨fun h => ⟨h.1, by omega⟩, fun h => ⟨h.1, ?_⟩⟩
        by_cases e : j = i
        · subst e; exact absurd h.1 c
        · have := h.2; omega
      obtain ⟨R, hR, K, hK⟩ := ih (i + 1) ws (by omega) hw'
      rw [← ew.out] at hK
      refine ⟨R, hR, K + but.length + 2, fun k hk => ?_⟩
      obtain ⟨k, rfl⟩ : ∃ m, k = m + 1 := ⟨k - 1, by omega⟩
      simp only [chooser_Pick.l0]
      rw [if_pos (by omega), if_pos (by omega), if_pos (by omega), if_pos (by omega), hs]
      simp only [Option.bind_some, if_true]
      refine l1_skip hl hK but.length 0 k (by omega) (by omega) ?_
      by_cases e : ∃ m : Nat, 0 ≤ m ∧ m < but.length ∧ rd but m = (i : Int)
      · exact .inl e
      · refine .inr fun h => c ⟨by omega, h.1, h.2, fun m h1 h2 => e ⟨m, by omega, h1, h2⟩⟩

theorem chk_ok {s b : Int} : Ch.chk s b = 0 ↔ 6 ≤ s ∧ s ≤ 24 ∧ 2 ≤ b ∧ b ≤ 16 := by
  unfold Ch.chk
  by_cases h : s < 6 ∨ 24 < s ∨ b < 2 ∨ 16 < b
  · rw [if_pos h]; omega
  · rw [if_neg h]; omega

theorem rd_get (xs : List Int) (i : Nat) (h : i < xs.length) : rd xs (i : Int) = xs[i] := by
  unfold rd
  rw [Int.toNat_natCast, List.getD_eq_getElem?_getD, List.getElem?_eq_getElem h]
  rfl

theorem any_bad {b : Int} {live : List Int} : live.any (Ch.bad b) = false ↔ liveok b live := by
  rw [List.any_eq_false]
  unfold liveok Ch.bad
  refine ⟨fun h i hi => ?_, fun h x hx => ?_⟩
  · have := h _ (List.getElem_mem hi)
    rw [rd_get _ _ hi]
    simp only [decide_eq_true_eq] at this
    omega
  · obtain ⟨i, hi, rfl⟩ := List.getElem_of_mem hx
    have := h i hi
    rw [rd_get _ _ hi] at this
    simp only [decide_eq_true_eq]
    omega

/-- May these be counts? -/
def may (s b : Int) (live : List Int) : Prop := 6 ≤ s ∧ s ≤ 24 ∧ 2 ≤ b ∧ b ≤ 16 ∧ (live.length : Int) = s ∧ liveok b live

theorem cnt_may {s b : Int} {live : List Int} : Ch.cnt s b live = true ↔ may s b live := by
  unfold Ch.cnt may
  rw [Bool.and_eq_true, Bool.and_eq_true, decide_eq_true_eq, decide_eq_true_eq, Bool.not_eq_true', any_bad, chk_ok]
  exact ⟨fun ⟨⟨⟨a, b, c, d⟩, e⟩, f⟩ => ⟨a, b, c, d, e, f⟩, fun ⟨a, b, c, d, e, f⟩ => ⟨⟨⟨a, b, c, d⟩, e⟩, f⟩⟩

/-- What Pick answers. -/
def answers (s b : Int) (live age but : List Int) (R : Int × Int) : Prop :=
  (¬ (may s b live ∧ (age.length : Int) = s ∧ ageok age) ∧ R = (0, 1)) ∨ (may s b live ∧ (age.length : Int) = s ∧ ageok age ∧ good b live age but R)

theorem answers_one {s b : Int} {live age but : List Int} {R R' : Int × Int} (h : answers s b live age but R) (h' : answers s b live age but R') : R = R' := by
  rcases h with ⟨h1, h2⟩ | ⟨h1, h2, h3, h4⟩
  · rcases h' with ⟨_, k2⟩ | ⟨k1, k2, k3, _⟩
    · rw [h2, k2]
    · exact absurd ⟨k1, k2, k3⟩ h1
  · rcases h' with ⟨k1, _⟩ | ⟨_, _, _, k4⟩
    · exact absurd ⟨h1, h2, h3⟩ k1
    · rcases h4 with ⟨h4, h5⟩ | ⟨p, h4, h5⟩
      · rcases k4 with ⟨k4, _⟩ | ⟨q, _, k5⟩
        · rw [h4, k4]
        · exact absurd k5.1 (h5 q)
      · rcases k4 with ⟨_, k5⟩ | ⟨q, k4, k5⟩
        · exact absurd h5.1 (k5 p)
        · rw [h4, k4, pick_one h5 k5]

theorem pick_law (s b : Int) (live age but : List Int) (hl : but.length * 8 ≤ 140737488351232) : ∃ R, answers s b live age but R ∧ ∃ K, ∀ k, K ≤ k → chooser_Pick.f k s b live age but = some R := by
  by_cases h1 : may s b live
  · have hc : Ch.cnt s b live = true := cnt_may.2 h1
    have h1' := h1
    obtain ⟨m1, m2, m3, m4, m5, m6⟩ := h1
    by_cases h2 : (age.length : Int) = s
    · have hne : ((age.length : Int) != s) = false := by rw [h2]; exact bne_self_eq_false s
      have unf : ∀ k, chooser_Pick.f (k + 1) s b live age but = chooser_Pick.l0 k age but [] [] [] live (live.length : Int) ((0 : Nat) : Int) s b := by
        intro k
        unfold chooser_Pick.f chooser_counts.f
        simp only [hc, hne, Option.bind_some, if_true, chooser_Pick.j0, Bool.false_eq_true, if_false]
        rfl
      by_cases h3 : ageok age
      · obtain ⟨R, hR, K, hK⟩ := l0_good (s := s) (b := b) (live := live) (age := age) (but := but) hl m3 m4 (by omega) (by omega) m6 h3 live.length 0 [] (by omega) ⟨fun j => by simp, List.Pairwise.nil, Nat.le_refl _⟩
        refine ⟨R, .inr ⟨h1', h2, h3, hR⟩, K + 1, fun k hk => ?_⟩
        obtain ⟨k, rfl⟩ : ∃ m, k = m + 1 := ⟨k - 1, by omega⟩
        rw [unf]
        exact hK k (by omega)
      · have h3' : ∃ m : Nat, 0 ≤ m ∧ m < age.length ∧ ¬ (0 ≤ rd age m ∧ rd age m ≤ 65535) := by
          refine Classical.byContradiction fun h => h3 fun i hi => Classical.byContradiction fun h' => h ⟨i, by omega, hi, h'⟩
        obtain ⟨K, hK⟩ := l0_bad (s := s) (b := b) (live := live) (age := age) (but := but) hl m3 m4 (by omega) (by omega) m6 live.length 0 [] [] [] (by omega) (by simp) (by simp) (by simp) h3'
        refine ⟨(0, 1), .inl ⟨fun h => h3 h.2.2, rfl⟩, K + 1, fun k hk => ?_⟩
        obtain ⟨k, rfl⟩ : ∃ m, k = m + 1 := ⟨k - 1, by omega⟩
        rw [unf]
        exact hK k (by omega)
    · have hne : ((age.length : Int) != s) = true := by rw [bne_iff_ne]; exact h2
      refine ⟨(0, 1), .inl ⟨fun h => h2 h.2.1, rfl⟩, 1, fun k hk => ?_⟩
      obtain ⟨k, rfl⟩ : ∃ m, k = m + 1 := ⟨k - 1, by omega⟩
      unfold chooser_Pick.f chooser_counts.f
      simp only [hc, hne, Option.bind_some, if_true, chooser_Pick.j0]
  · have hc : Ch.cnt s b live = false := by
      cases e : Ch.cnt s b live with
      | false => rfl
      | true => exact absurd (cnt_may.1 e) h1
    refine ⟨(0, 1), .inl ⟨fun h => h1 h.1, rfl⟩, 1, fun k hk => ?_⟩
    obtain ⟨k, rfl⟩ : ∃ m, k = m + 1 := ⟨k - 1, by omega⟩
    unfold chooser_Pick.f chooser_counts.f
    simp only [hc, Option.bind_some, Bool.false_eq_true, if_false, chooser_Pick.j0, if_true]

theorem gain_yes {s b : Int} {live : List Int} (h : may s b live) {i : Nat} (hi : i < live.length) : chooser_Gain.f s b live (i : Int) = some (b - rd live i, 0) := by
  have hc : Ch.cnt s b live = true := cnt_may.2 h
  obtain ⟨m1, m2, m3, m4, m5, m6⟩ := h
  have := m6 i hi
  unfold chooser_Gain.f chooser_counts.f
  simp only [hc, Option.bind_some, if_true]
  rw [if_neg (by omega), if_neg (by omega), if_pos (by omega), if_pos (by omega), w_id (by omega) (by omega)]

theorem gain_no {s b a : Int} {live : List Int} (h : ¬ (may s b live ∧ 0 ≤ a ∧ a < live.length)) : chooser_Gain.f s b live a = some (0, 1) := by
  unfold chooser_Gain.f chooser_counts.f
  by_cases h1 : may s b live
  · have hc : Ch.cnt s b live = true := cnt_may.2 h1
    simp only [hc, Option.bind_some, if_true]
    by_cases h2 : a < 0
    · rw [if_pos h2]
    · rw [if_neg h2, if_pos]
      by_cases h3 : a ≥ (live.length : Int)
      · exact h3
      · exact absurd ⟨h1, by omega, by omega⟩ h
  · have hc : Ch.cnt s b live = false := by
      cases e : Ch.cnt s b live with
      | false => rfl
      | true => exact absurd (cnt_may.1 e) h1
    simp only [hc, Option.bind_some, Bool.false_eq_true, if_false]

theorem awake_ev : ∃ K, ∀ k, K ≤ k → stopcocklaw12_awake.f k = some true := Ev.of stopcocklaw12_awake.mono (k := 60) (by decide +kernel)


theorem may06 (s b : Int) : stopcockref06_May.f s b = some (decide (Ch.chk s b = 0)) := by
  unfold stopcockref06_May.f
  by_cases h1 : s ≥ 6
  · rw [if_pos h1]
    by_cases h2 : s ≤ 24
    · rw [if_pos h2]
      by_cases h3 : b ≥ 2
      · rw [if_pos h3]
        by_cases h4 : b ≤ 16
        · rw [decide_eq_true h4, decide_eq_true (chk_ok.2 ⟨h1, h2, h3, h4⟩)]
        · rw [decide_eq_false h4, decide_eq_false (fun h => h4 (chk_ok.1 h).2.2.2)]
      · rw [if_neg h3, decide_eq_false (fun h => h3 (chk_ok.1 h).2.2.1)]
    · rw [if_neg h2, decide_eq_false (fun h => h2 (chk_ok.1 h).2.1)]
  · rw [if_neg h1, decide_eq_false (fun h => h1 (chk_ok.1 h).1)]

theorem may_loop {s b : Int} {live : List Int} (hl : live.length ≤ 24) (d : Nat) : ∀ (j k : Nat), j + d = live.length → d + 1 ≤ k → (∀ m : Nat, m < j → 0 ≤ rd live m ∧ rd live m ≤ b) →
    (liveok b live → stopcockref12_May.l0 k live (j : Int) s b = some true) ∧ (¬ liveok b live → stopcockref12_May.l0 k live (j : Int) s b = some false) := by
  induction d with
  | zero =>
    intro j k hd hk hok
    obtain ⟨k, rfl⟩ : ∃ m, k = m + 1 := ⟨k - 1, by omega⟩
    obtain rfl : j = live.length := by omega
    simp only [stopcockref12_May.l0]
    rw [if_neg (by omega)]
    exact ⟨fun _ => rfl, fun h => absurd hok h⟩
  | succ d ih =>
    intro j k hd hk hok
    obtain ⟨k, rfl⟩ : ∃ m, k = m + 1 := ⟨k - 1, by omega⟩
    have ew : Aside0 (wrap64 ((j : Int) + 1) = ((j + 1 : Nat) : Int)) := Aside0.mk (by rw [w_id (by omega) (by omega)]; omega)
    simp only [stopcockref12_May.l0, ew.out]
    clear ew
    rw [if_pos (by omega), if_pos (by omega)]
    by_cases h1 : rd live (j : Int) < 0
    · rw [if_pos h1]
      refine ⟨fun h => ?_, fun _ => rfl⟩
      have := h j (by omega)
      omega
    · rw [if_neg h1]
      by_cases h2 : rd live (j : Int) > b
      · rw [if_pos h2]
        refine ⟨fun h => ?_, fun _ => rfl⟩
        have := h j (by omega)
        omega
      · rw [if_neg h2]
        refine ih (j + 1) k (by omega) (by omega) (fun m hm => ?_)
        by_cases e : m = j
        · subst e; omega
        · exact hok m (by omega)

theorem ref_may12 (s b : Int) (live : List Int) : ∃ K, ∀ k, K ≤ k → stopcockref12_May.f k s b live = some (Ch.cnt s b live) := by
  by_cases h : may s b live
  · have hc : Ch.cnt s b live = true := cnt_may.2 h
    rw [hc]
    obtain ⟨m1, m2, m3, m4, m5, m6⟩ := h
    refine ⟨live.length + 2, fun k hk => ?_⟩
    obtain ⟨k, rfl⟩ : ∃ m, k = m + 1 := ⟨k - 1, by omega⟩
    unfold stopcockref12_May.f
    have hne : ((live.length : Int) != s) = false := by rw [m5]; exact bne_self_eq_false s
    rw [may06, decide_eq_true (chk_ok.2 ⟨m1, m2, m3, m4⟩), hne]
    simp only [Option.bind_some, if_true, stopcockref12_May.j0, Bool.false_eq_true, if_false]
    exact (may_loop (s := s) (b := b) (live := live) (by omega) live.length 0 k (by omega) (by omega) (fun m hm => by omega)).1 m6
  · have hc : Ch.cnt s b live = false := by
      cases e : Ch.cnt s b live with
      | false => rfl
      | true => exact absurd (cnt_may.1 e) h
    rw [hc]
    refine ⟨live.length + 2, fun k hk => ?_⟩
    obtain ⟨k, rfl⟩ : ∃ m, k = m + 1 := ⟨k - 1, by omega⟩
    unfold stopcockref12_May.f
    rw [may06]
    by_cases h1 : Ch.chk s b = 0
    · rw [decide_eq_true h1]
      obtain ⟨m1, m2, m3, m4⟩ := chk_ok.1 h1
      by_cases h2 : (live.length : Int) = s
      · have hne : ((live.length : Int) != s) = false := by rw [h2]; exact bne_self_eq_false s
        rw [hne]
        simp only [Option.bind_some, if_true, stopcockref12_May.j0, Bool.false_eq_true, if_false]
        exact (may_loop (s := s) (b := b) (live := live) (by omega) live.length 0 k (by omega) (by omega) (fun m hm => by omega)).2 (fun h6 => h ⟨m1, m2, m3, m4, h2, h6⟩)
      · have hne : ((live.length : Int) != s) = true := by rw [bne_iff_ne]; exact h2
        rw [hne]
        simp only [Option.bind_some, if_true, stopcockref12_May.j0]
    · rw [decide_eq_false h1]
      simp only [Option.bind_some, Bool.false_eq_true, if_false, stopcockref12_May.j0, if_true]

theorem ref_score {x n k : Int} (hn : 2 ≤ n) (hn' : n ≤ 16) (hx : 0 ≤ x) (hx' : x ≤ n) (hk : 0 ≤ k) (hk' : k ≤ 65535) :
    stopcockref02_Score.f x n k = some ((n - x) * (k + 1), n + x, 0) := by
  have m := mulb (by omega : (0 : Int) ≤ n - x) (by omega : n - x ≤ 16) (by omega : (0 : Int) ≤ k + 1) (by omega : k + 1 ≤ 65536)
  unfold stopcockref02_Score.f
  rw [if_neg (by omega), if_neg (by omega), if_neg (by omega), if_neg (by omega), if_neg (by omega), if_neg (by omega)]
  rw [w_id (n := n - x) (by omega) (by omega), w_id (n := k + 1) (by omega) (by omega), w_id (n := n + x) (by omega) (by omega), w_id (by omega) (by omega)]

theorem cand_loop {s b : Int} {live but : List Int} (hl : but.length * 8 ≤ 140737488351232) (i : Nat) (hi : i < live.length) (d : Nat) : ∀ (j k : Nat), j + d = but.length → d + 1 ≤ k → (∀ m : Nat, m < j → rd but m ≠ (i : Int)) →
    (cand b live but i → stopcockref12_candidate.l0 k live but (i : Int) (j : Int) s b = some true) ∧ (¬ cand b live but i → stopcockref12_candidate.l0 k live but (i : Int) (j : Int) s b = some false) := by
  induction d with
  | zero =>
    intro j k hd hk hno
    obtain ⟨k, rfl⟩ : ∃ m, k = m + 1 := ⟨k - 1, by omega⟩
    obtain rfl : j = but.length := by omega
    simp only [stopcockref12_candidate.l0]
    rw [if_neg (by omega), if_pos (by omega), if_pos (by omega)]
    refine ⟨fun h => ?_, fun h => ?_⟩
    · rw [if_pos h.2.1, decide_eq_true h.2.2.1]
    · by_cases h0 : rd live (i : Int) > 0
      · rw [if_pos h0, decide_eq_false (fun h1 => h ⟨hi, h0, h1, hno⟩)]
      · rw [if_neg h0]
  | succ d ih =>
    intro j k hd hk hno
    obtain ⟨k, rfl⟩ : ∃ m, k = m + 1 := ⟨k - 1, by omega⟩
    have ew : Aside0 (wrap64 ((j : Int) + 1) = ((j + 1 : Nat) : Int)) := Aside0.mk (by rw [w_id (by omega) (by omega)]; omega)
    simp only [stopcockref12_candidate.l0, ew.out]
    clear ew
    rw [if_pos (by omega), if_pos (by omega)]
    by_cases g : rd but (j : Int) = (i : Int)
    · rw [if_pos g]
      exact ⟨fun h => absurd g (h.2.2.2 j (by omega)), fun _ => rfl⟩
    · rw [if_neg g]
      refine ih (j + 1) k (by omega) (by omega) (fun m hm => ?_)
      by_cases e : m = j
      · subst e; exact g
      · exact hno m (by omega)

theorem ages {s b : Int} {live age but : List Int} (ha : age.length ≤ 24) (d : Nat) : ∀ (j k : Nat), j + d = age.length → d + 1 ≤ k → (∀ m : Nat, m < j → 0 ≤ rd age m ∧ rd age m ≤ 65535) →
    (ageok age → stopcockref12_Pick.l0 k live age but (j : Int) s b = stopcockref12_Pick.l1 (k - d - 1) live age but (-1) 0 s b) ∧ (¬ ageok age → stopcockref12_Pick.l0 k live age but (j : Int) s b = some (0, 1)) := by
  induction d with
  | zero =>
    intro j k hd hk hok
    obtain ⟨k, rfl⟩ : ∃ m, k = m + 1 := ⟨k - 1, by omega⟩
    obtain rfl : j = age.length := by omega
    simp only [stopcockref12_Pick.l0]
    rw [if_neg (by omega)]
    exact ⟨fun _ => rfl, fun h => absurd hok h⟩
  | succ d ih =>
    intro j k hd hk hok
    obtain ⟨k, rfl⟩ : ∃ m, k = m + 1 := ⟨k - 1, by omega⟩
    have ew : Aside0 (wrap64 ((j : Int) + 1) = ((j + 1 : Nat) : Int)) := Aside0.mk (by rw [w_id (by omega) (by omega)]; omega)
    have ek : k + 1 - (d + 1) - 1 = k - d - 1 := by omega
    rw [ek]
    simp only [stopcockref12_Pick.l0, ew.out]
    clear ew
    rw [if_pos (by omega), if_pos (by omega)]
    by_cases h1 : rd age (j : Int) < 0
    · rw [if_pos h1]
      refine ⟨fun h => ?_, fun _ => rfl⟩
      have := h j (by omega)
      omega
    · rw [if_neg h1]
      by_cases h2 : rd age (j : Int) > 65535
      · rw [if_pos h2]
        refine ⟨fun h => ?_, fun _ => rfl⟩
        have := h j (by omega)
        omega
      · rw [if_neg h2]
        refine ih (j + 1) k (by omega) (by omega) (fun m hm => ?_)
        by_cases e : m = j
        · subst e; omega
        · exact hok m (by omega)

/-- The best ahead of segment i. -/
def bestTo (b : Int) (live age but : List Int) (i : Nat) (x : Int) : Prop :=
  (x = -1 ∧ ∀ j, j < i → ¬ cand b live but j) ∨ ∃ p : Nat, x = (p : Int) ∧ p < i ∧ cand b live but p ∧ ∀ j, j < i → cand b live but j → ov b live age j * un b live p ≤ ov b live age p * un b live j ∧ (j < p → ov b live age j * un b live p < ov b live age p * un b live j)

theorem un_pos {b : Int} {live : List Int} {j : Nat} (hb : 2 ≤ b) (hv : liveok b live) (hj : j < live.length) : 0 < un b live j := by
  have := hv j hj
  unfold un
  omega

theorem ref_l1 {s b : Int} {live age but : List Int} (hl : but.length * 8 ≤ 140737488351232) (hb : 2 ≤ b) (hb' : b ≤ 16) (hn : live.length ≤ 24) (ha : age.length = live.length) (hv : liveok b live) (hg : ageok age) (d : Nat) : ∀ (i : Nat) (x : Int), i + d = live.length → bestTo b live age but i x →
    ∃ R, good b live age but R ∧ ∃ K, ∀ k, K ≤ k → stopcockref12_Pick.l1 k live age but x (i : Int) s b = some R := by
  induction d with
  | zero =>
    intro i x hd hx
    obtain rfl : i = live.length := by omega
    rcases hx with ⟨rfl, h⟩ | ⟨p, rfl, h1, h2, h3⟩
    · refine ⟨(0, 4), .inl ⟨rfl, fun j hj => h j hj.1 hj⟩, 1, fun k hk => ?_⟩
      obtain ⟨k, rfl⟩ : ∃ m, k = m + 1 := ⟨k - 1, by omega⟩
      simp only [stopcockref12_Pick.l1]
      rw [if_neg (by omega), if_pos (by omega)]
    · refine ⟨((p : Int), 0), .inr ⟨p, rfl, h2, fun j hj => h3 j hj.1 hj⟩, 1, fun k hk => ?_⟩
      obtain ⟨k, rfl⟩ : ∃ m, k = m + 1 := ⟨k - 1, by omega⟩
      simp only [stopcockref12_Pick.l1]
      rw [if_neg (by omega), if_neg (by omega)]
  | succ d ih =>
    intro i x hd hx
    have hil : i < live.length := by omega
    have ew : Aside0 (wrap64 ((i : Int) + 1) = ((i + 1 : Nat) : Int)) := Aside0.mk (by rw [w_id (by omega) (by omega)]; omega)
    have hcl := fun (k : Nat) (hk : but.length + 1 ≤ k) => cand_loop (s := s) (b := b) (live := live) (but := but) hl i hil but.length 0 k (by omega) (by omega) (fun m hm => by omega)
    have hcf : ∀ k, stopcockref12_candidate.f k s b live but (i : Int) = stopcockref12_candidate.l0 k live but (i : Int) ((0 : Nat) : Int) s b := fun k => rfl
    by_cases c : cand b live but i
    · rcases hx with ⟨rfl, h⟩ | ⟨p, rfl, h1, h2, h3⟩
      · obtain ⟨R, hR, K, hK⟩ := ih (i + 1) (i : Int) (by omega) (.inr ⟨i, rfl, by omega, c, fun j hj hcj => by
          by_cases e : j = i
          · subst e; exact ⟨Int.le_refl _, fun h => by omega⟩
          · exact absurd hcj (h j (by omega))⟩)
        refine ⟨R, hR, K + but.length + 2, fun k hk => ?_⟩
        obtain ⟨k, rfl⟩ : ∃ m, k = m + 1 := ⟨k - 1, by omega⟩
        simp only [stopcockref12_Pick.l1, ew.out]
        clear ew
        rw [if_pos (by omega), hcf, (hcl k (by omega)).1 c]
        simp only [Option.bind_some, if_true]
        rw [if_pos (by omega)]
        exact hK k (by omega)
      · have hvi := hv i hil
        have hgi := hg i (by omega)
        have hvp := hv p (by omega)
        have hgp := hg p (by omega)
        have s1 := ref_score (x := rd live i) (n := b) (k := rd age i) hb hb' hvi.1 hvi.2 hgi.1 hgi.2
        have s2 := ref_score (x := rd live p) (n := b) (k := rd age p) hb hb' hvp.1 hvp.2 hgp.1 hgp.2
        have o1 := score_ok (x := rd live i) (n := b) (k := rd age i) hb hb' hvi.1 hvi.2 hgi.1 hgi.2
        have o2 := score_ok (x := rd live p) (n := b) (k := rd age p) hb hb' hvp.1 hvp.2 hgp.1 hgp.2
        have upi := un_pos hb hv hil
        have upp := un_pos hb hv (by omega : p < live.length)
        by_cases g : sg (ov b live age i * un b live p) (ov b live age p * un b live i) > 0
        · have g' := sg_pos.1 g
          obtain ⟨R, hR, K, hK⟩ := ih (i + 1) (i : Int) (by omega) (.inr ⟨i, rfl, by omega, c, fun j hj hcj => by
            by_cases e : j = i
            · subst e; exact ⟨Int.le_refl _, fun h => by omega⟩
            · have q := (h3 j (by omega) hcj).1
              have upj := un_pos hb hv hcj.1
              have := lt_of_le_lt upj upp upi q g'
              exact ⟨Int.le_of_lt this, fun _ => this⟩⟩)
          refine ⟨R, hR, K + but.length + 2100002, fun k hk => ?_⟩
          obtain ⟨k, rfl⟩ : ∃ m, k = m + 1 := ⟨k - 1, by omega⟩
          simp only [stopcockref12_Pick.l1, ew.out]
          clear ew
          rw [if_pos (by omega), hcf, (hcl k (by omega)).1 c]
          simp only [Option.bind_some, if_true]
          rw [if_neg (by omega), if_pos (by omega), if_pos (by omega), s1]
          simp only [Option.bind_some]
          rw [if_pos (by omega), if_pos (by omega), if_pos (by omega), s2]
          simp only [Option.bind_some]
          rw [ref_yes o1 o2 (by omega)]
          simp only [Option.bind_some]
          unfold ov un at g
          rw [if_pos g]
          exact hK k (by omega)
        · have g' : ¬ ov b live age p * un b live i < ov b live age i * un b live p := fun h => g (sg_pos.2 h)
          obtain ⟨R, hR, K, hK⟩ := ih (i + 1) (p : Int) (by omega) (.inr ⟨p, rfl, by omega, h2, fun j hj hcj => by
            by_cases e : j = i
            · subst e; exact ⟨Int.not_lt.1 g', fun h => by omega⟩
            · exact h3 j (by omega) hcj⟩)
          refine ⟨R, hR, K + but.length + 2100002, fun k hk => ?_⟩
          obtain ⟨k, rfl⟩ : ∃ m, k = m + 1 := ⟨k - 1, by omega⟩
          simp only [stopcockref12_Pick.l1, ew.out]
          clear ew
          rw [if_pos (by omega), hcf, (hcl k (by omega)).1 c]
          simp only [Option.bind_some, if_true]
          rw [if_neg (by omega), if_pos (by omega), if_pos (by omega), s1]
          simp only [Option.bind_some]
          rw [if_pos (by omega), if_pos (by omega), if_pos (by omega), s2]
          simp only [Option.bind_some]
          rw [ref_yes o1 o2 (by omega)]
          simp only [Option.bind_some]
          unfold ov un at g
          rw [if_neg g]
          exact hK k (by omega)
    · have hx' : bestTo b live age but (i + 1) x := by
        rcases hx with ⟨h0, h⟩ | ⟨p, h0, h1, h2, h3⟩
        · refine .inl ⟨h0, fun j hj hcj => ?_⟩
          by_cases e : j = i
          · subst e; exact c hcj
          · exact h j (by omega) hcj
        · refine .inr ⟨p, h0, by omega, h2, fun j hj hcj => ?_⟩
          by_cases e : j = i
          · subst e; exact absurd hcj c
          · exact h3 j (by omega) hcj
      obtain ⟨R, hR, K, hK⟩ := ih (i + 1) x (by omega) hx'
      refine ⟨R, hR, K + but.length + 2, fun k hk => ?_⟩
      obtain ⟨k, rfl⟩ : ∃ m, k = m + 1 := ⟨k - 1, by omega⟩
      simp only [stopcockref12_Pick.l1, ew.out]
      clear ew
      rw [if_pos (by omega), hcf, (hcl k (by omega)).2 c]
      simp only [Option.bind_some, Bool.false_eq_true, if_false]
      exact hK k (by omega)

theorem ref_law (s b : Int) (live age but : List Int) (hl : but.length * 8 ≤ 140737488351232) : ∃ R, answers s b live age but R ∧ ∃ K, ∀ k, K ≤ k → stopcockref12_Pick.f k s b live age but = some R := by
  obtain ⟨K0, h0⟩ := ref_may12 s b live
  by_cases h1 : may s b live
  · have hc : Ch.cnt s b live = true := cnt_may.2 h1
    have h1' := h1
    obtain ⟨m1, m2, m3, m4, m5, m6⟩ := h1
    by_cases h2 : (age.length : Int) = s
    · have hne : ((age.length : Int) != s) = false := by rw [h2]; exact bne_self_eq_false s
      have unf : ∀ k, K0 ≤ k + 1 → stopcockref12_Pick.f (k + 1) s b live age but = stopcockref12_Pick.l0 k live age but ((0 : Nat) : Int) s b := by
        intro k hk
        unfold stopcockref12_Pick.f
        rw [h0 _ hk]
        simp only [hc, hne, Option.bind_some, if_true, stopcockref12_Pick.j0, Bool.false_eq_true, if_false]
        rfl
      have hag := fun (k : Nat) (hk : age.length + 1 ≤ k) => ages (s := s) (b := b) (live := live) (age := age) (but := but) (by omega) age.length 0 k (by omega) (by omega) (fun m hm => by omega)
      by_cases h3 : ageok age
      · obtain ⟨R, hR, K, hK⟩ := ref_l1 (s := s) (b := b) (live := live) (age := age) (but := but) hl m3 m4 (by omega) (by omega) m6 h3 live.length 0 (-1) (by omega) (.inl ⟨rfl, fun j hj => by omega⟩)
        refine ⟨R, .inr ⟨h1', h2, h3, hR⟩, K + K0 + age.length + 3, fun k hk => ?_⟩
        obtain ⟨k, rfl⟩ : ∃ m, k = m + 1 := ⟨k - 1, by omega⟩
        rw [unf k (by omega), (hag k (by omega)).1 h3]
        exact hK _ (by omega)
      · refine ⟨(0, 1), .inl ⟨fun h => h3 h.2.2, rfl⟩, K0 + age.length + 3, fun k hk => ?_⟩
        obtain ⟨k, rfl⟩ : ∃ m, k = m + 1 := ⟨k - 1, by omega⟩
        rw [unf k (by omega), (hag k (by omega)).2 h3]
    · have hne : ((age.length : Int) != s) = true := by rw [bne_iff_ne]; exact h2
      refine ⟨(0, 1), .inl ⟨fun h => h2 h.2.1, rfl⟩, K0 + 1, fun k hk => ?_⟩
      obtain ⟨k, rfl⟩ : ∃ m, k = m + 1 := ⟨k - 1, by omega⟩
      unfold stopcockref12_Pick.f
      rw [h0 _ (by omega)]
      simp only [hc, hne, Option.bind_some, if_true, stopcockref12_Pick.j0]
  · have hc : Ch.cnt s b live = false := by
      cases e : Ch.cnt s b live with
      | false => rfl
      | true => exact absurd (cnt_may.1 e) h1
    refine ⟨(0, 1), .inl ⟨fun h => h1 h.1, rfl⟩, K0 + 1, fun k hk => ?_⟩
    obtain ⟨k, rfl⟩ : ∃ m, k = m + 1 := ⟨k - 1, by omega⟩
    unfold stopcockref12_Pick.f
    rw [h0 _ (by omega)]
    simp only [hc, Option.bind_some, Bool.false_eq_true, if_false, stopcockref12_Pick.j0, if_true]

theorem law (s b : Int) (live age but : List Int) (hl : but.length * 8 ≤ 140737488351232) : ∃ k, stopcocklaw12_ChooserPicks.f k s b live age but = some true := by
  obtain ⟨R, hR, K1, h1⟩ := pick_law s b live age but hl
  obtain ⟨R', hR', K2, h2⟩ := ref_law s b live age but hl
  obtain ⟨K3, h3⟩ := awake_ev
  obtain rfl := answers_one hR hR'
  refine ⟨K1 + K2 + K3, ?_⟩
  unfold stopcocklaw12_ChooserPicks.f
  rw [h1 _ (by omega), h2 _ (by omega), h3 _ (by omega)]
  simp

end Go.Proofs.Ytnbgljphdkfmpaa.CChooserPicks
