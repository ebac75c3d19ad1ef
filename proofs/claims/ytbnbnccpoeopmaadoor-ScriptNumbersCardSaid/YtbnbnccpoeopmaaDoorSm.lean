/- The walk of ScriptNumbers. -/
import Derived.Test.YtbnbnccpoeopmaaDoorSl
import Derived.Outline
namespace Go.Proofs.YtbnbnccpoeopmaaDoor.Sm
open Go.RowKit Go.Proofs.YtbnbnccpoeopmaaDoor.Sa Go.Proofs.YtbnbnccpoeopmaaDoor.Sb Go.Proofs.YtbnbnccpoeopmaaDoor.Sc Go.Proofs.YtbnbnccpoeopmaaDoor.Sd Go.Proofs.YtbnbnccpoeopmaaDoor.Se Go.Proofs.YtbnbnccpoeopmaaDoor.Sf Go.Proofs.YtbnbnccpoeopmaaDoor.Sg Go.Proofs.YtbnbnccpoeopmaaDoor.Sj Go.Proofs.YtbnbnccpoeopmaaDoor.Sk Go.Proofs.YtbnbnccpoeopmaaDoor.Sl

/-- The six endings. -/
def extraB : Nat → ByteArray
  | 0 => ⟨#[32, 48]⟩
  | 1 => ⟨#[32]⟩
  | 2 => ⟨#[48]⟩
  | 3 => ⟨#[10]⟩
  | 4 => ⟨#[32, 120]⟩
  | _ => ⟨#[45]⟩

theorem act_ra (n : Int) (h0 : -9223372036854775808 ≤ n) (h1 : n ≤ 9223372036854775807) (w : World) (hE : Env w) :
    Calls Tryd.prog 12 #[.string (⟨#[102, 97, 105, 108, 32]⟩ ++ numS n)] w fun e w' => ∃ pd nd cd pk nk ck, e = .returned (.tuple #[.agg #[.int .i64 6, .int .i64 n, .int .i64 0, .int .i64 0, .int .i64 0, .int .i64 0, .slice pd nd cd, .slice pk nk ck], .int .i64 0]) ∧ Below w.heap.size w w' := by
  have hs : (failB ++ numS n).size ≤ 1024 := by
    rw [ByteArray.size_append]
    have := numS_size n h0 h1
    have h2 : failB.size = 5 := rfl
    omega
  have h := act_r _ hs w hE
  unfold codeOf at h
  rw [code_a n h0 h1] at h
  exact h

/-- What the code of an ending may be. -/
def CodeOk (n : Int) (r : Nat) (cb : Int) : Prop := if r = 2 then (cb = 0 ∨ (cb = 14 ∧ (n = 0 ∨ ¬ n < 576460752303423488 ∨ ¬ -576460752303423488 < n))) else cb = 14

theorem code_ok (n : Int) (r : Nat) (hr : r < 6) : CodeOk n r (codeOf (failB ++ numS n ++ extraB r)) := by
  unfold CodeOk
  have : r = 0 ∨ r = 1 ∨ r = 2 ∨ r = 3 ∨ r = 4 ∨ r = 5 := by omega
  rcases this with rfl | rfl | rfl | rfl | rfl | rfl
  · rw [if_neg (by decide)]
    exact code_sp n _ [48] rfl
  · rw [if_neg (by decide)]
    exact code_sp n _ [] rfl
  · rw [if_pos rfl]
    have h := code_zero n (extraB 2) rfl
    rcases h.1 with h1 | h1
    · exact Or.inl h1
    · refine Or.inr ⟨h1, ?_⟩
      by_cases a : n = 0
      · exact Or.inl a
      · by_cases b : n < 576460752303423488
        · by_cases c : -576460752303423488 < n
          · have := h.2 a b c
            rw [h1] at this
            exact absurd this (by decide)
          · exact Or.inr (Or.inr c)
        · exact Or.inr (Or.inl b)
  · rw [if_neg (by decide)]
    exact code_end n _ 10 rfl (by decide) (by decide)
  · rw [if_neg (by decide)]
    exact code_sp n _ [120] rfl
  · rw [if_neg (by decide)]
    exact code_end n _ 45 rfl (by decide) (by decide)

set_option maxHeartbeats 4000000 in
set_option maxRecDepth 100000 in
theorem numbers_r (n : Int) (h0 : -9223372036854775808 ≤ n) (h1 : n ≤ 9223372036854775807) (t : Int) (ht0 : 0 ≤ t) (ht1 : t ≤ 255) (r : Nat) (hr : t % 6 = (r : Int)) (hr6 : r < 6) (w : World) (hE : Env w) :
    Calls Tryd.prog 5 #[.int .i64 n, .int .u8 t] w fun e w' => e = .returned (.bool true) ∧ Below w.heap.size w w' := by
  have hsz := numS_size n h0 h1
  have hco := code_ok n r hr6
  have hx : (extraB r).size ≤ 2 := by
    have : r = 0 ∨ r = 1 ∨ r = 2 ∨ r = 3 ∨ r = 4 ∨ r = 5 := by omega
    rcases this with rfl | rfl | rfl | rfl | rfl | rfl <;> decide
  have hfs : failB.size = 5 := rfl
  have hb1 : (failB ++ numS n ++ extraB r).size ≤ 1024 := by rw [ByteArray.size_append, ByteArray.size_append]; omega
  have hc1 : ((⟨#[102, 97, 105, 108, 32, 48]⟩ : ByteArray) ++ numS n).size ≤ 1024 := by
    rw [ByteArray.size_append]
    have : (⟨#[102, 97, 105, 108, 32, 48]⟩ : ByteArray).size = 6 := rfl
    omega
  have hd1 : ((⟨#[102, 97, 105, 108, 32, 43]⟩ : ByteArray) ++ numS n).size ≤ 1024 := by
    rw [ByteArray.size_append]
    have : (⟨#[102, 97, 105, 108, 32, 43]⟩ : ByteArray).size = 6 := rfl
    omega
  have ka := fun W (h : Below w.heap.size w W) => act_ra n h0 h1 W (hE.below h)
  have kb := fun W (h : Below w.heap.size w W) => act_r (failB ++ numS n ++ extraB r) hb1 W (hE.below h)
  have kc := fun W (h : Below w.heap.size w W) => act_r ((⟨#[102, 97, 105, 108, 32, 48]⟩ : ByteArray) ++ numS n) hc1 W (hE.below h)
  have kd := fun W (h : Below w.heap.size w W) => act_r ((⟨#[102, 97, 105, 108, 32, 43]⟩ : ByteArray) ++ numS n) hd1 W (hE.below h)
  rw [code_lead n _ 48 rfl (Or.inl rfl)] at kc
  rw [code_lead n _ 43 rfl (Or.inr rfl)] at kd
  have HN : Hid (∀ W, Calls Tryd.prog 14 #[.int .i64 n] W fun e w' => e = .returned (.string (numS n)) ∧ Below W.heap.size W w') := Lib.hid (fun W => lawNumber_c n h0 h1 W)
  have HA := Lib.hid ka
  have HC := Lib.hid kc
  have HD := Lib.hid kd
  have HW : Hid (∀ W, Below w.heap.size w W → Calls Tryd.prog 9 #[] W fun e w' => e = .returned (.bool true) ∧ Below W.heap.size W w') := Lib.hid (fun W h => awake_c W (hE.below h))
  have hb2 : ¬ 9223372036854775807 < 5 + (numS n).size := by omega
  have hb3 : ¬ 9223372036854775807 < 6 + (numS n).size := by omega
  have hb4 : ¬ 9223372036854775807 < 5 + (numS n).size + 1 := by omega
  have hb5 : ¬ 9223372036854775807 < 5 + (numS n).size + 2 := by omega
  clear ka kc kd hE hfs hb1 hc1 hd1 hx hsz
  generalize codeOf (failB ++ numS n ++ extraB r) = cb at kb hco
  generalize (actM? (failB ++ numS n ++ extraB r)).getD zeroM = mb at kb
  generalize numS n = sn at *
  unfold CodeOk at hco
  have : r = 0 ∨ r = 1 ∨ r = 2 ∨ r = 3 ∨ r = 4 ∨ r = 5 := by omega
  rcases this with rfl | rfl | rfl | rfl | rfl | rfl
  · rw [if_neg (by decide)] at hco
    simp only [failB, extraB] at kb
    have hr2 : t % 6 = 0 := hr
    clear hr
    subst hco
    have HB := Lib.hid kb
    clear kb
    go_enter Tryd.func5, Tryd.ntmps5
    go_wp2_with (first
      | (go_at_call 14; (with_reducible refine (HN.out _).mono ?_); rintro e w1 ⟨rfl, hb⟩; have B1 := Lib.hid hb; clear hb)
      | (go_at_call 9; (with_reducible refine (HW.out _ (by exact B5.out.alloc B5.out.size _)).mono ?_); rintro e w6 ⟨rfl, hb⟩; have B6 := Lib.hid ((B5.out.alloc B5.out.size _).trans (hb.mono (by rw [sz_alloc]; exact Nat.le_succ_of_le B5.out.size))); have c6 : w6.cell? ⟨w2.heap.size, 1, none⟩ = some (.int .i64 n) := blk_cell (blk_below (blk_old Q5.out _) hb (by rw [sz_alloc]; exact Nat.lt_succ_of_lt (lt_of_block Q5.out))) 1; clear hb)
      | (go_at_call 12; first
        | ((with_reducible refine (HA.out _ B1.out).mono ?_); rintro e w2 ⟨pd1, nd1, cd1, pk1, nk1, ck1, rfl, hb⟩; have B2 := Lib.hid (B1.out.trans (hb.mono B1.out.size)); have Q2 : Hid ((w2.alloc (.cells #[.int .i64 6, .int .i64 n, .int .i64 0, .int .i64 0, .int .i64 0, .int .i64 0, .slice pd1 nd1 cd1, .slice pk1 nk1 ck1] 27)).heap[w2.heap.size]? = _) := Lib.hid (blk_new _ _ _); clear hb)
        | ((with_reducible refine (HB.out _ (by exact (B2.out.alloc B2.out.size _).alloc (by rw [sz_alloc]; exact Nat.le_succ_of_le B2.out.size) _)).mono ?_); rintro e w3 ⟨pd2, nd2, cd2, pk2, nk2, ck2, rfl, hb⟩; have B3 := Lib.hid (((B2.out.alloc B2.out.size _).alloc (by rw [sz_alloc]; exact Nat.le_succ_of_le B2.out.size) _).trans (hb.mono (by rw [sz_alloc, sz_alloc]; exact Nat.le_succ_of_le (Nat.le_succ_of_le B2.out.size)))); have Q3 := Lib.hid (blk_below (blk_old Q2.out _) hb (by rw [sz_alloc, sz_alloc]; omega)); clear hb)
        | ((with_reducible refine (HC.out _ (by exact B3.out.alloc B3.out.size _)).mono ?_); rintro e w4 ⟨pd3, nd3, cd3, pk3, nk3, ck3, rfl, hb⟩; have B4 := Lib.hid ((B3.out.alloc B3.out.size _).trans (hb.mono (by rw [sz_alloc]; exact Nat.le_succ_of_le B3.out.size))); have Q4 := Lib.hid (blk_below (blk_old Q3.out _) hb (by rw [sz_alloc]; exact Nat.lt_succ_of_lt (lt_of_block Q3.out))); clear hb)
        | ((with_reducible refine (HD.out _ (by exact B4.out.alloc B4.out.size _)).mono ?_); rintro e w5 ⟨pd4, nd4, cd4, pk4, nk4, ck4, rfl, hb⟩; have B5 := Lib.hid ((B4.out.alloc B4.out.size _).trans (hb.mono (by rw [sz_alloc]; exact Nat.le_succ_of_le B4.out.size))); have Q5 := Lib.hid (blk_below (blk_old Q4.out _) hb (by rw [sz_alloc]; exact Nat.lt_succ_of_lt (lt_of_block Q4.out))); clear hb)))
    all_goals go_ret
    all_goals exact ⟨rfl, B6.out⟩
  · rw [if_neg (by decide)] at hco
    simp only [failB, extraB] at kb
    have hr2 : t % 6 = 1 := hr
    clear hr
    subst hco
    have HB := Lib.hid kb
    clear kb
    go_enter Tryd.func5, Tryd.ntmps5
    go_wp2_with (first
      | (go_at_call 14; (with_reducible refine (HN.out _).mono ?_); rintro e w1 ⟨rfl, hb⟩; have B1 := Lib.hid hb; clear hb)
      | (go_at_call 9; (with_reducible refine (HW.out _ (by exact B5.out.alloc B5.out.size _)).mono ?_); rintro e w6 ⟨rfl, hb⟩; have B6 := Lib.hid ((B5.out.alloc B5.out.size _).trans (hb.mono (by rw [sz_alloc]; exact Nat.le_succ_of_le B5.out.size))); have c6 : w6.cell? ⟨w2.heap.size, 1, none⟩ = some (.int .i64 n) := blk_cell (blk_below (blk_old Q5.out _) hb (by rw [sz_alloc]; exact Nat.lt_succ_of_lt (lt_of_block Q5.out))) 1; clear hb)
      | (go_at_call 12; first
        | ((with_reducible refine (HA.out _ B1.out).mono ?_); rintro e w2 ⟨pd1, nd1, cd1, pk1, nk1, ck1, rfl, hb⟩; have B2 := Lib.hid (B1.out.trans (hb.mono B1.out.size)); have Q2 : Hid ((w2.alloc (.cells #[.int .i64 6, .int .i64 n, .int .i64 0, .int .i64 0, .int .i64 0, .int .i64 0, .slice pd1 nd1 cd1, .slice pk1 nk1 ck1] 27)).heap[w2.heap.size]? = _) := Lib.hid (blk_new _ _ _); clear hb)
        | ((with_reducible refine (HB.out _ (by exact (B2.out.alloc B2.out.size _).alloc (by rw [sz_alloc]; exact Nat.le_succ_of_le B2.out.size) _)).mono ?_); rintro e w3 ⟨pd2, nd2, cd2, pk2, nk2, ck2, rfl, hb⟩; have B3 := Lib.hid (((B2.out.alloc B2.out.size _).alloc (by rw [sz_alloc]; exact Nat.le_succ_of_le B2.out.size) _).trans (hb.mono (by rw [sz_alloc, sz_alloc]; exact Nat.le_succ_of_le (Nat.le_succ_of_le B2.out.size)))); have Q3 := Lib.hid (blk_below (blk_old Q2.out _) hb (by rw [sz_alloc, sz_alloc]; omega)); clear hb)
        | ((with_reducible refine (HC.out _ (by exact B3.out.alloc B3.out.size _)).mono ?_); rintro e w4 ⟨pd3, nd3, cd3, pk3, nk3, ck3, rfl, hb⟩; have B4 := Lib.hid ((B3.out.alloc B3.out.size _).trans (hb.mono (by rw [sz_alloc]; exact Nat.le_succ_of_le B3.out.size))); have Q4 := Lib.hid (blk_below (blk_old Q3.out _) hb (by rw [sz_alloc]; exact Nat.lt_succ_of_lt (lt_of_block Q3.out))); clear hb)
        | ((with_reducible refine (HD.out _ (by exact B4.out.alloc B4.out.size _)).mono ?_); rintro e w5 ⟨pd4, nd4, cd4, pk4, nk4, ck4, rfl, hb⟩; have B5 := Lib.hid ((B4.out.alloc B4.out.size _).trans (hb.mono (by rw [sz_alloc]; exact Nat.le_succ_of_le B4.out.size))); have Q5 := Lib.hid (blk_below (blk_old Q4.out _) hb (by rw [sz_alloc]; exact Nat.lt_succ_of_lt (lt_of_block Q4.out))); clear hb)))
    all_goals go_ret
    all_goals exact ⟨rfl, B6.out⟩
  · rw [if_pos rfl] at hco
    simp only [failB, extraB] at kb
    have hr2 : t % 6 = 2 := hr
    clear hr
    rcases hco with rfl | ⟨rfl, hcc⟩
    · have HB := Lib.hid kb
      clear kb
      go_enter Tryd.func5, Tryd.ntmps5
      go_wp2_with (first
        | (go_at_call 14; (with_reducible refine (HN.out _).mono ?_); rintro e w1 ⟨rfl, hb⟩; have B1 := Lib.hid hb; clear hb)
        | (go_at_call 9; (with_reducible refine (HW.out _ (by exact B5.out.alloc B5.out.size _)).mono ?_); rintro e w6 ⟨rfl, hb⟩; have B6 := Lib.hid ((B5.out.alloc B5.out.size _).trans (hb.mono (by rw [sz_alloc]; exact Nat.le_succ_of_le B5.out.size))); have c6 : w6.cell? ⟨w2.heap.size, 1, none⟩ = some (.int .i64 n) := blk_cell (blk_below (blk_old Q5.out _) hb (by rw [sz_alloc]; exact Nat.lt_succ_of_lt (lt_of_block Q5.out))) 1; clear hb)
        | (go_at_call 12; first
          | ((with_reducible refine (HA.out _ B1.out).mono ?_); rintro e w2 ⟨pd1, nd1, cd1, pk1, nk1, ck1, rfl, hb⟩; have B2 := Lib.hid (B1.out.trans (hb.mono B1.out.size)); have Q2 : Hid ((w2.alloc (.cells #[.int .i64 6, .int .i64 n, .int .i64 0, .int .i64 0, .int .i64 0, .int .i64 0, .slice pd1 nd1 cd1, .slice pk1 nk1 ck1] 27)).heap[w2.heap.size]? = _) := Lib.hid (blk_new _ _ _); clear hb)
          | ((with_reducible refine (HB.out _ (by exact (B2.out.alloc B2.out.size _).alloc (by rw [sz_alloc]; exact Nat.le_succ_of_le B2.out.size) _)).mono ?_); rintro e w3 ⟨pd2, nd2, cd2, pk2, nk2, ck2, rfl, hb⟩; have B3 := Lib.hid (((B2.out.alloc B2.out.size _).alloc (by rw [sz_alloc]; exact Nat.le_succ_of_le B2.out.size) _).trans (hb.mono (by rw [sz_alloc, sz_alloc]; exact Nat.le_succ_of_le (Nat.le_succ_of_le B2.out.size)))); have Q3 := Lib.hid (blk_below (blk_old Q2.out _) hb (by rw [sz_alloc, sz_alloc]; omega)); clear hb)
          | ((with_reducible refine (HC.out _ (by exact B3.out.alloc B3.out.size _)).mono ?_); rintro e w4 ⟨pd3, nd3, cd3, pk3, nk3, ck3, rfl, hb⟩; have B4 := Lib.hid ((B3.out.alloc B3.out.size _).trans (hb.mono (by rw [sz_alloc]; exact Nat.le_succ_of_le B3.out.size))); have Q4 := Lib.hid (blk_below (blk_old Q3.out _) hb (by rw [sz_alloc]; exact Nat.lt_succ_of_lt (lt_of_block Q3.out))); clear hb)
          | ((with_reducible refine (HD.out _ (by exact B4.out.alloc B4.out.size _)).mono ?_); rintro e w5 ⟨pd4, nd4, cd4, pk4, nk4, ck4, rfl, hb⟩; have B5 := Lib.hid ((B4.out.alloc B4.out.size _).trans (hb.mono (by rw [sz_alloc]; exact Nat.le_succ_of_le B4.out.size))); have Q5 := Lib.hid (blk_below (blk_old Q4.out _) hb (by rw [sz_alloc]; exact Nat.lt_succ_of_lt (lt_of_block Q4.out))); clear hb)))
      all_goals go_ret
      all_goals exact ⟨rfl, B6.out⟩
    · have HB := Lib.hid kb
      clear kb
      rcases hcc with hc0 | hc0 | hc0
      · subst hc0
        go_enter Tryd.func5, Tryd.ntmps5
        go_wp2_with (first
          | (go_at_call 14; (with_reducible refine (HN.out _).mono ?_); rintro e w1 ⟨rfl, hb⟩; have B1 := Lib.hid hb; clear hb)
          | (go_at_call 9; (with_reducible refine (HW.out _ (by exact B5.out.alloc B5.out.size _)).mono ?_); rintro e w6 ⟨rfl, hb⟩; have B6 := Lib.hid ((B5.out.alloc B5.out.size _).trans (hb.mono (by rw [sz_alloc]; exact Nat.le_succ_of_le B5.out.size))); have c6 : w6.cell? ⟨w2.heap.size, 1, none⟩ = some (.int .i64 0) := blk_cell (blk_below (blk_old Q5.out _) hb (by rw [sz_alloc]; exact Nat.lt_succ_of_lt (lt_of_block Q5.out))) 1; clear hb)
          | (go_at_call 12; first
            | ((with_reducible refine (HA.out _ B1.out).mono ?_); rintro e w2 ⟨pd1, nd1, cd1, pk1, nk1, ck1, rfl, hb⟩; have B2 := Lib.hid (B1.out.trans (hb.mono B1.out.size)); have Q2 : Hid ((w2.alloc (.cells #[.int .i64 6, .int .i64 0, .int .i64 0, .int .i64 0, .int .i64 0, .int .i64 0, .slice pd1 nd1 cd1, .slice pk1 nk1 ck1] 27)).heap[w2.heap.size]? = _) := Lib.hid (blk_new _ _ _); clear hb)
            | ((with_reducible refine (HB.out _ (by exact (B2.out.alloc B2.out.size _).alloc (by rw [sz_alloc]; exact Nat.le_succ_of_le B2.out.size) _)).mono ?_); rintro e w3 ⟨pd2, nd2, cd2, pk2, nk2, ck2, rfl, hb⟩; have B3 := Lib.hid (((B2.out.alloc B2.out.size _).alloc (by rw [sz_alloc]; exact Nat.le_succ_of_le B2.out.size) _).trans (hb.mono (by rw [sz_alloc, sz_alloc]; exact Nat.le_succ_of_le (Nat.le_succ_of_le B2.out.size)))); have Q3 := Lib.hid (blk_below (blk_old Q2.out _) hb (by rw [sz_alloc, sz_alloc]; omega)); clear hb)
            | ((with_reducible refine (HC.out _ (by exact B3.out.alloc B3.out.size _)).mono ?_); rintro e w4 ⟨pd3, nd3, cd3, pk3, nk3, ck3, rfl, hb⟩; have B4 := Lib.hid ((B3.out.alloc B3.out.size _).trans (hb.mono (by rw [sz_alloc]; exact Nat.le_succ_of_le B3.out.size))); have Q4 := Lib.hid (blk_below (blk_old Q3.out _) hb (by rw [sz_alloc]; exact Nat.lt_succ_of_lt (lt_of_block Q3.out))); clear hb)
            | ((with_reducible refine (HD.out _ (by exact B4.out.alloc B4.out.size _)).mono ?_); rintro e w5 ⟨pd4, nd4, cd4, pk4, nk4, ck4, rfl, hb⟩; have B5 := Lib.hid ((B4.out.alloc B4.out.size _).trans (hb.mono (by rw [sz_alloc]; exact Nat.le_succ_of_le B4.out.size))); have Q5 := Lib.hid (blk_below (blk_old Q4.out _) hb (by rw [sz_alloc]; exact Nat.lt_succ_of_lt (lt_of_block Q4.out))); clear hb)))
        all_goals go_ret
        all_goals exact ⟨rfl, B6.out⟩
      · go_enter Tryd.func5, Tryd.ntmps5
        go_wp2_with (first
          | (go_at_call 14; (with_reducible refine (HN.out _).mono ?_); rintro e w1 ⟨rfl, hb⟩; have B1 := Lib.hid hb; clear hb)
          | (go_at_call 9; (with_reducible refine (HW.out _ (by exact B5.out.alloc B5.out.size _)).mono ?_); rintro e w6 ⟨rfl, hb⟩; have B6 := Lib.hid ((B5.out.alloc B5.out.size _).trans (hb.mono (by rw [sz_alloc]; exact Nat.le_succ_of_le B5.out.size))); have c6 : w6.cell? ⟨w2.heap.size, 1, none⟩ = some (.int .i64 n) := blk_cell (blk_below (blk_old Q5.out _) hb (by rw [sz_alloc]; exact Nat.lt_succ_of_lt (lt_of_block Q5.out))) 1; clear hb)
          | (go_at_call 12; first
            | ((with_reducible refine (HA.out _ B1.out).mono ?_); rintro e w2 ⟨pd1, nd1, cd1, pk1, nk1, ck1, rfl, hb⟩; have B2 := Lib.hid (B1.out.trans (hb.mono B1.out.size)); have Q2 : Hid ((w2.alloc (.cells #[.int .i64 6, .int .i64 n, .int .i64 0, .int .i64 0, .int .i64 0, .int .i64 0, .slice pd1 nd1 cd1, .slice pk1 nk1 ck1] 27)).heap[w2.heap.size]? = _) := Lib.hid (blk_new _ _ _); clear hb)
            | ((with_reducible refine (HB.out _ (by exact (B2.out.alloc B2.out.size _).alloc (by rw [sz_alloc]; exact Nat.le_succ_of_le B2.out.size) _)).mono ?_); rintro e w3 ⟨pd2, nd2, cd2, pk2, nk2, ck2, rfl, hb⟩; have B3 := Lib.hid (((B2.out.alloc B2.out.size _).alloc (by rw [sz_alloc]; exact Nat.le_succ_of_le B2.out.size) _).trans (hb.mono (by rw [sz_alloc, sz_alloc]; exact Nat.le_succ_of_le (Nat.le_succ_of_le B2.out.size)))); have Q3 := Lib.hid (blk_below (blk_old Q2.out _) hb (by rw [sz_alloc, sz_alloc]; omega)); clear hb)
            | ((with_reducible refine (HC.out _ (by exact B3.out.alloc B3.out.size _)).mono ?_); rintro e w4 ⟨pd3, nd3, cd3, pk3, nk3, ck3, rfl, hb⟩; have B4 := Lib.hid ((B3.out.alloc B3.out.size _).trans (hb.mono (by rw [sz_alloc]; exact Nat.le_succ_of_le B3.out.size))); have Q4 := Lib.hid (blk_below (blk_old Q3.out _) hb (by rw [sz_alloc]; exact Nat.lt_succ_of_lt (lt_of_block Q3.out))); clear hb)
            | ((with_reducible refine (HD.out _ (by exact B4.out.alloc B4.out.size _)).mono ?_); rintro e w5 ⟨pd4, nd4, cd4, pk4, nk4, ck4, rfl, hb⟩; have B5 := Lib.hid ((B4.out.alloc B4.out.size _).trans (hb.mono (by rw [sz_alloc]; exact Nat.le_succ_of_le B4.out.size))); have Q5 := Lib.hid (blk_below (blk_old Q4.out _) hb (by rw [sz_alloc]; exact Nat.lt_succ_of_lt (lt_of_block Q4.out))); clear hb)))
        all_goals go_ret
        all_goals exact ⟨rfl, B6.out⟩
      · go_enter Tryd.func5, Tryd.ntmps5
        go_wp2_with (first
          | (go_at_call 14; (with_reducible refine (HN.out _).mono ?_); rintro e w1 ⟨rfl, hb⟩; have B1 := Lib.hid hb; clear hb)
          | (go_at_call 9; (with_reducible refine (HW.out _ (by exact B5.out.alloc B5.out.size _)).mono ?_); rintro e w6 ⟨rfl, hb⟩; have B6 := Lib.hid ((B5.out.alloc B5.out.size _).trans (hb.mono (by rw [sz_alloc]; exact Nat.le_succ_of_le B5.out.size))); have c6 : w6.cell? ⟨w2.heap.size, 1, none⟩ = some (.int .i64 n) := blk_cell (blk_below (blk_old Q5.out _) hb (by rw [sz_alloc]; exact Nat.lt_succ_of_lt (lt_of_block Q5.out))) 1; clear hb)
          | (go_at_call 12; first
            | ((with_reducible refine (HA.out _ B1.out).mono ?_); rintro e w2 ⟨pd1, nd1, cd1, pk1, nk1, ck1, rfl, hb⟩; have B2 := Lib.hid (B1.out.trans (hb.mono B1.out.size)); have Q2 : Hid ((w2.alloc (.cells #[.int .i64 6, .int .i64 n, .int .i64 0, .int .i64 0, .int .i64 0, .int .i64 0, .slice pd1 nd1 cd1, .slice pk1 nk1 ck1] 27)).heap[w2.heap.size]? = _) := Lib.hid (blk_new _ _ _); clear hb)
            | ((with_reducible refine (HB.out _ (by exact (B2.out.alloc B2.out.size _).alloc (by rw [sz_alloc]; exact Nat.le_succ_of_le B2.out.size) _)).mono ?_); rintro e w3 ⟨pd2, nd2, cd2, pk2, nk2, ck2, rfl, hb⟩; have B3 := Lib.hid (((B2.out.alloc B2.out.size _).alloc (by rw [sz_alloc]; exact Nat.le_succ_of_le B2.out.size) _).trans (hb.mono (by rw [sz_alloc, sz_alloc]; exact Nat.le_succ_of_le (Nat.le_succ_of_le B2.out.size)))); have Q3 := Lib.hid (blk_below (blk_old Q2.out _) hb (by rw [sz_alloc, sz_alloc]; omega)); clear hb)
            | ((with_reducible refine (HC.out _ (by exact B3.out.alloc B3.out.size _)).mono ?_); rintro e w4 ⟨pd3, nd3, cd3, pk3, nk3, ck3, rfl, hb⟩; have B4 := Lib.hid ((B3.out.alloc B3.out.size _).trans (hb.mono (by rw [sz_alloc]; exact Nat.le_succ_of_le B3.out.size))); have Q4 := Lib.hid (blk_below (blk_old Q3.out _) hb (by rw [sz_alloc]; exact Nat.lt_succ_of_lt (lt_of_block Q3.out))); clear hb)
            | ((with_reducible refine (HD.out _ (by exact B4.out.alloc B4.out.size _)).mono ?_); rintro e w5 ⟨pd4, nd4, cd4, pk4, nk4, ck4, rfl, hb⟩; have B5 := Lib.hid ((B4.out.alloc B4.out.size _).trans (hb.mono (by rw [sz_alloc]; exact Nat.le_succ_of_le B4.out.size))); have Q5 := Lib.hid (blk_below (blk_old Q4.out _) hb (by rw [sz_alloc]; exact Nat.lt_succ_of_lt (lt_of_block Q4.out))); clear hb)))
        all_goals go_ret
        all_goals exact ⟨rfl, B6.out⟩
  · rw [if_neg (by decide)] at hco
    simp only [failB, extraB] at kb
    have hr2 : t % 6 = 3 := hr
    clear hr
    subst hco
    have HB := Lib.hid kb
    clear kb
    go_enter Tryd.func5, Tryd.ntmps5
    go_wp2_with (first
      | (go_at_call 14; (with_reducible refine (HN.out _).mono ?_); rintro e w1 ⟨rfl, hb⟩; have B1 := Lib.hid hb; clear hb)
      | (go_at_call 9; (with_reducible refine (HW.out _ (by exact B5.out.alloc B5.out.size _)).mono ?_); rintro e w6 ⟨rfl, hb⟩; have B6 := Lib.hid ((B5.out.alloc B5.out.size _).trans (hb.mono (by rw [sz_alloc]; exact Nat.le_succ_of_le B5.out.size))); have c6 : w6.cell? ⟨w2.heap.size, 1, none⟩ = some (.int .i64 n) := blk_cell (blk_below (blk_old Q5.out _) hb (by rw [sz_alloc]; exact Nat.lt_succ_of_lt (lt_of_block Q5.out))) 1; clear hb)
      | (go_at_call 12; first
        | ((with_reducible refine (HA.out _ B1.out).mono ?_); rintro e w2 ⟨pd1, nd1, cd1, pk1, nk1, ck1, rfl, hb⟩; have B2 := Lib.hid (B1.out.trans (hb.mono B1.out.size)); have Q2 : Hid ((w2.alloc (.cells #[.int .i64 6, .int .i64 n, .int .i64 0, .int .i64 0, .int .i64 0, .int .i64 0, .slice pd1 nd1 cd1, .slice pk1 nk1 ck1] 27)).heap[w2.heap.size]? = _) := Lib.hid (blk_new _ _ _); clear hb)
        | ((with_reducible refine (HB.out _ (by exact (B2.out.alloc B2.out.size _).alloc (by rw [sz_alloc]; exact Nat.le_succ_of_le B2.out.size) _)).mono ?_); rintro e w3 ⟨pd2, nd2, cd2, pk2, nk2, ck2, rfl, hb⟩; have B3 := Lib.hid (((B2.out.alloc B2.out.size _).alloc (by rw [sz_alloc]; exact Nat.le_succ_of_le B2.out.size) _).trans (hb.mono (by rw [sz_alloc, sz_alloc]; exact Nat.le_succ_of_le (Nat.le_succ_of_le B2.out.size)))); have Q3 := Lib.hid (blk_below (blk_old Q2.out _) hb (by rw [sz_alloc, sz_alloc]; omega)); clear hb)
        | ((with_reducible refine (HC.out _ (by exact B3.out.alloc B3.out.size _)).mono ?_); rintro e w4 ⟨pd3, nd3, cd3, pk3, nk3, ck3, rfl, hb⟩; have B4 := Lib.hid ((B3.out.alloc B3.out.size _).trans (hb.mono (by rw [sz_alloc]; exact Nat.le_succ_of_le B3.out.size))); have Q4 := Lib.hid (blk_below (blk_old Q3.out _) hb (by rw [sz_alloc]; exact Nat.lt_succ_of_lt (lt_of_block Q3.out))); clear hb)
        | ((with_reducible refine (HD.out _ (by exact B4.out.alloc B4.out.size _)).mono ?_); rintro e w5 ⟨pd4, nd4, cd4, pk4, nk4, ck4, rfl, hb⟩; have B5 := Lib.hid ((B4.out.alloc B4.out.size _).trans (hb.mono (by rw [sz_alloc]; exact Nat.le_succ_of_le B4.out.size))); have Q5 := Lib.hid (blk_below (blk_old Q4.out _) hb (by rw [sz_alloc]; exact Nat.lt_succ_of_lt (lt_of_block Q4.out))); clear hb)))
    all_goals go_ret
    all_goals exact ⟨rfl, B6.out⟩
  · rw [if_neg (by decide)] at hco
    simp only [failB, extraB] at kb
    have hr2 : t % 6 = 4 := hr
    clear hr
    subst hco
    have HB := Lib.hid kb
    clear kb
    go_enter Tryd.func5, Tryd.ntmps5
    go_wp2_with (first
      | (go_at_call 14; (with_reducible refine (HN.out _).mono ?_); rintro e w1 ⟨rfl, hb⟩; have B1 := Lib.hid hb; clear hb)
      | (go_at_call 9; (with_reducible refine (HW.out _ (by exact B5.out.alloc B5.out.size _)).mono ?_); rintro e w6 ⟨rfl, hb⟩; have B6 := Lib.hid ((B5.out.alloc B5.out.size _).trans (hb.mono (by rw [sz_alloc]; exact Nat.le_succ_of_le B5.out.size))); have c6 : w6.cell? ⟨w2.heap.size, 1, none⟩ = some (.int .i64 n) := blk_cell (blk_below (blk_old Q5.out _) hb (by rw [sz_alloc]; exact Nat.lt_succ_of_lt (lt_of_block Q5.out))) 1; clear hb)
      | (go_at_call 12; first
        | ((with_reducible refine (HA.out _ B1.out).mono ?_); rintro e w2 ⟨pd1, nd1, cd1, pk1, nk1, ck1, rfl, hb⟩; have B2 := Lib.hid (B1.out.trans (hb.mono B1.out.size)); have Q2 : Hid ((w2.alloc (.cells #[.int .i64 6, .int .i64 n, .int .i64 0, .int .i64 0, .int .i64 0, .int .i64 0, .slice pd1 nd1 cd1, .slice pk1 nk1 ck1] 27)).heap[w2.heap.size]? = _) := Lib.hid (blk_new _ _ _); clear hb)
        | ((with_reducible refine (HB.out _ (by exact (B2.out.alloc B2.out.size _).alloc (by rw [sz_alloc]; exact Nat.le_succ_of_le B2.out.size) _)).mono ?_); rintro e w3 ⟨pd2, nd2, cd2, pk2, nk2, ck2, rfl, hb⟩; have B3 := Lib.hid (((B2.out.alloc B2.out.size _).alloc (by rw [sz_alloc]; exact Nat.le_succ_of_le B2.out.size) _).trans (hb.mono (by rw [sz_alloc, sz_alloc]; exact Nat.le_succ_of_le (Nat.le_succ_of_le B2.out.size)))); have Q3 := Lib.hid (blk_below (blk_old Q2.out _) hb (by rw [sz_alloc, sz_alloc]; omega)); clear hb)
        | ((with_reducible refine (HC.out _ (by exact B3.out.alloc B3.out.size _)).mono ?_); rintro e w4 ⟨pd3, nd3, cd3, pk3, nk3, ck3, rfl, hb⟩; have B4 := Lib.hid ((B3.out.alloc B3.out.size _).trans (hb.mono (by rw [sz_alloc]; exact Nat.le_succ_of_le B3.out.size))); have Q4 := Lib.hid (blk_below (blk_old Q3.out _) hb (by rw [sz_alloc]; exact Nat.lt_succ_of_lt (lt_of_block Q3.out))); clear hb)
        | ((with_reducible refine (HD.out _ (by exact B4.out.alloc B4.out.size _)).mono ?_); rintro e w5 ⟨pd4, nd4, cd4, pk4, nk4, ck4, rfl, hb⟩; have B5 := Lib.hid ((B4.out.alloc B4.out.size _).trans (hb.mono (by rw [sz_alloc]; exact Nat.le_succ_of_le B4.out.size))); have Q5 := Lib.hid (blk_below (blk_old Q4.out _) hb (by rw [sz_alloc]; exact Nat.lt_succ_of_lt (lt_of_block Q4.out))); clear hb)))
    all_goals go_ret
    all_goals exact ⟨rfl, B6.out⟩
  · rw [if_neg (by decide)] at hco
    simp only [failB, extraB] at kb
    have hr2 : t % 6 = 5 := hr
    clear hr
    subst hco
    have HB := Lib.hid kb
    clear kb
    go_enter Tryd.func5, Tryd.ntmps5
    go_wp2_with (first
      | (go_at_call 14; (with_reducible refine (HN.out _).mono ?_); rintro e w1 ⟨rfl, hb⟩; have B1 := Lib.hid hb; clear hb)
      | (go_at_call 9; (with_reducible refine (HW.out _ (by exact B5.out.alloc B5.out.size _)).mono ?_); rintro e w6 ⟨rfl, hb⟩; have B6 := Lib.hid ((B5.out.alloc B5.out.size _).trans (hb.mono (by rw [sz_alloc]; exact Nat.le_succ_of_le B5.out.size))); have c6 : w6.cell? ⟨w2.heap.size, 1, none⟩ = some (.int .i64 n) := blk_cell (blk_below (blk_old Q5.out _) hb (by rw [sz_alloc]; exact Nat.lt_succ_of_lt (lt_of_block Q5.out))) 1; clear hb)
      | (go_at_call 12; first
        | ((with_reducible refine (HA.out _ B1.out).mono ?_); rintro e w2 ⟨pd1, nd1, cd1, pk1, nk1, ck1, rfl, hb⟩; have B2 := Lib.hid (B1.out.trans (hb.mono B1.out.size)); have Q2 : Hid ((w2.alloc (.cells #[.int .i64 6, .int .i64 n, .int .i64 0, .int .i64 0, .int .i64 0, .int .i64 0, .slice pd1 nd1 cd1, .slice pk1 nk1 ck1] 27)).heap[w2.heap.size]? = _) := Lib.hid (blk_new _ _ _); clear hb)
        | ((with_reducible refine (HB.out _ (by exact (B2.out.alloc B2.out.size _).alloc (by rw [sz_alloc]; exact Nat.le_succ_of_le B2.out.size) _)).mono ?_); rintro e w3 ⟨pd2, nd2, cd2, pk2, nk2, ck2, rfl, hb⟩; have B3 := Lib.hid (((B2.out.alloc B2.out.size _).alloc (by rw [sz_alloc]; exact Nat.le_succ_of_le B2.out.size) _).trans (hb.mono (by rw [sz_alloc, sz_alloc]; exact Nat.le_succ_of_le (Nat.le_succ_of_le B2.out.size)))); have Q3 := Lib.hid (blk_below (blk_old Q2.out _) hb (by rw [sz_alloc, sz_alloc]; omega)); clear hb)
        | ((with_reducible refine (HC.out _ (by exact B3.out.alloc B3.out.size _)).mono ?_); rintro e w4 ⟨pd3, nd3, cd3, pk3, nk3, ck3, rfl, hb⟩; have B4 := Lib.hid ((B3.out.alloc B3.out.size _).trans (hb.mono (by rw [sz_alloc]; exact Nat.le_succ_of_le B3.out.size))); have Q4 := Lib.hid (blk_below (blk_old Q3.out _) hb (by rw [sz_alloc]; exact Nat.lt_succ_of_lt (lt_of_block Q3.out))); clear hb)
        | ((with_reducible refine (HD.out _ (by exact B4.out.alloc B4.out.size _)).mono ?_); rintro e w5 ⟨pd4, nd4, cd4, pk4, nk4, ck4, rfl, hb⟩; have B5 := Lib.hid ((B4.out.alloc B4.out.size _).trans (hb.mono (by rw [sz_alloc]; exact Nat.le_succ_of_le B4.out.size))); have Q5 := Lib.hid (blk_below (blk_old Q4.out _) hb (by rw [sz_alloc]; exact Nat.lt_succ_of_lt (lt_of_block Q4.out))); clear hb)))
    all_goals go_ret
    all_goals exact ⟨rfl, B6.out⟩

theorem numbers_c (n : Int) (h0 : -9223372036854775808 ≤ n) (h1 : n ≤ 9223372036854775807) (t : Int) (ht0 : 0 ≤ t) (ht1 : t ≤ 255) (w : World) (hE : Env w) :
    Calls Tryd.prog 5 #[.int .i64 n, .int .u8 t] w fun e w' => e = .returned (.bool true) ∧ Below w.heap.size w w' :=
  numbers_r n h0 h1 t ht0 ht1 (t % 6).toNat (by omega) (by omega) w hE

end Go.Proofs.YtbnbnccpoeopmaaDoor.Sm
