/- The walks of package plat: Check, Sectors, Capacity; Contains of no numbers. -/
import Derived.Test.YthhgageghkbjjaaGreatRk
namespace Go.Proofs.YthhgageghkbjjaaGreat.Rl
open Go.RowKit Go.Proofs.YthhgageghkbjjaaGreat.Ra
set_option maxRecDepth 8000

/-- May it be a geometry? -/
def MayP (s b : Int) : Prop := 6 ≤ s ∧ s ≤ 24 ∧ 2 ≤ b ∧ b ≤ 16
instance (s b : Int) : Decidable (MayP s b) := by unfold MayP; infer_instance
def platVal (s b : Int) : Value := .agg #[.int .i64 s, .int .i64 b]

theorem check_c (s b : Int) (w : World) : Calls Tryz.prog 40 #[.agg #[.int .i64 s, .int .i64 b]] w fun e w' => e = .returned (.int .i64 (if MayP s b then 0 else 1)) ∧ Below w.heap.size w w' := by
  have hB : Below w.heap.size w (w.alloc (.cells #[.int .i64 s, .int .i64 b] 23)) := (Below.refl _ _).alloc (Nat.le_refl _) _
  by_cases h1 : s < 6
  · have hm : ¬ MayP s b := fun h => by have := h.1; omega
    rw [if_neg hm]
    have d1 : decide (s < 6) = true := decide_eq_true h1
    go_enter Tryz.func40, Tryz.ntmps40
    go_wp2
    go_ret
    exact ⟨rfl, hB⟩
  · have d1 : decide (s < 6) = false := decide_eq_false h1
    by_cases h2 : 24 < s
    · have hm : ¬ MayP s b := fun h => by have := h.2.1; omega
      rw [if_neg hm]
      have d2 : decide (24 < s) = true := decide_eq_true h2
      go_enter Tryz.func40, Tryz.ntmps40
      go_wp2
      go_ret
      exact ⟨rfl, hB⟩
    · have d2 : decide (24 < s) = false := decide_eq_false h2
      by_cases h3 : b < 2
      · have hm : ¬ MayP s b := fun h => by have := h.2.2.1; omega
        rw [if_neg hm]
        have d3 : decide (b < 2) = true := decide_eq_true h3
        go_enter Tryz.func40, Tryz.ntmps40
        go_wp2
        go_ret
        exact ⟨rfl, hB⟩
      · have d3 : decide (b < 2) = false := decide_eq_false h3
        by_cases h4 : 16 < b
        · have hm : ¬ MayP s b := fun h => by have := h.2.2.2; omega
          rw [if_neg hm]
          have d4 : decide (16 < b) = true := decide_eq_true h4
          go_enter Tryz.func40, Tryz.ntmps40
          go_wp2
          go_ret
          exact ⟨rfl, hB⟩
        · have hm : MayP s b := ⟨by omega, by omega, by omega, by omega⟩
          rw [if_pos hm]
          have d4 : decide (16 < b) = false := decide_eq_false h4
          go_enter Tryz.func40, Tryz.ntmps40
          go_wp2
          go_ret
          exact ⟨rfl, hB⟩

theorem sectors_bad (s b : Int) (hm : ¬ MayP s b) (w : World) : Calls Tryz.prog 19 #[.agg #[.int .i64 s, .int .i64 b]] w fun e w' => e = .returned (.tuple #[.int .i64 0, .int .i64 1]) ∧ Below w.heap.size w w' := by
  have K := Lib.hid (check_c s b (w.alloc (.cells #[.int .i64 s, .int .i64 b] 23)))
  rw [if_neg hm] at K
  have hB : Below w.heap.size w (w.alloc (.cells #[.int .i64 s, .int .i64 b] 23)) := (Below.refl _ _).alloc (Nat.le_refl _) _
  have HB := Lib.hid hB
  clear hB hm
  go_enter Tryz.func19, Tryz.ntmps19
  go_wp2_with (go_at_call 40; (with_reducible refine K.out.mono ?_); rintro e w1 ⟨rfl, hb⟩)
  go_ret2
  exact ⟨rfl, HB.out.trans (hb.mono HB.out.size)⟩

theorem sectors_c (s b : Int) (hm : MayP s b) (w : World) : Calls Tryz.prog 19 #[.agg #[.int .i64 s, .int .i64 b]] w fun e w' => e = .returned (.tuple #[.int .i64 (40 + s * b), .int .i64 0]) ∧ Below w.heap.size w w' := by
  have K := Lib.hid (check_c s b (w.alloc (.cells #[.int .i64 s, .int .i64 b] 23)))
  rw [if_pos hm] at K
  have hB : Below w.heap.size w (w.alloc (.cells #[.int .i64 s, .int .i64 b] 23)) := (Below.refl _ _).alloc (Nat.le_refl _) _
  have HB := Lib.hid hB
  obtain ⟨m1, m2, m3, m4⟩ := hm
  have hsb1 : 0 ≤ s * b := Int.mul_nonneg (by omega) (by omega)
  have hsb2 : s * b ≤ 24 * 16 := by
    have := Int.mul_le_mul m2 m4 (by omega) (by omega : (0 : Int) ≤ 24)
    exact this
  clear hB
  go_enter Tryz.func19, Tryz.ntmps19
  go_wp2_with (go_at_call 40; (with_reducible refine K.out.mono ?_); rintro e w1 ⟨rfl, hb⟩; have hk := blk_below (blk_new w #[.int .i64 s, .int .i64 b] 23) hb (by rw [sz_alloc]; omega); have c0 : w1.cell? ⟨w.heap.size, 0, none⟩ = some (.int .i64 s) := blk_cell hk 0; have c1 : w1.cell? ⟨w.heap.size, 1, none⟩ = some (.int .i64 b) := blk_cell hk 1; have HBB := Lib.hid hb; clear hk hb)
  go_ret2
  exact ⟨rfl, HB.out.trans (HBB.out.mono HB.out.size)⟩

theorem capacity_c (s b : Int) (hm : MayP s b) (w : World) : Calls Tryz.prog 47 #[.agg #[.int .i64 s, .int .i64 b]] w fun e w' => e = .returned (.tuple #[.int .i64 ((s - 2 - 2) * b), .int .i64 0]) ∧ Below w.heap.size w w' := by
  have K := Lib.hid (check_c s b (w.alloc (.cells #[.int .i64 s, .int .i64 b] 23)))
  rw [if_pos hm] at K
  have hB : Below w.heap.size w (w.alloc (.cells #[.int .i64 s, .int .i64 b] 23)) := (Below.refl _ _).alloc (Nat.le_refl _) _
  have HB := Lib.hid hB
  obtain ⟨m1, m2, m3, m4⟩ := hm
  have hsb1 : 0 ≤ (s - 2 - 2) * b := Int.mul_nonneg (by omega) (by omega)
  have hsb2 : (s - 2 - 2) * b ≤ 20 * 16 := Int.mul_le_mul (by omega) m4 (by omega) (by omega : (0 : Int) ≤ 20)
  clear hB
  go_enter Tryz.func47, Tryz.ntmps47
  go_wp2_with (go_at_call 40; (with_reducible refine K.out.mono ?_); rintro e w1 ⟨rfl, hb⟩; have hk := blk_below (blk_new w #[.int .i64 s, .int .i64 b] 23) hb (by rw [sz_alloc]; omega); have c0 : w1.cell? ⟨w.heap.size, 0, none⟩ = some (.int .i64 s) := blk_cell hk 0; have c1 : w1.cell? ⟨w.heap.size, 1, none⟩ = some (.int .i64 b) := blk_cell hk 1; have HBB := Lib.hid hb; clear hk hb)
  go_ret2
  exact ⟨rfl, HB.out.trans (HBB.out.mono HB.out.size)⟩

/-! ### No numbers -/
theorem index_none (x : Int) (w : World) : Calls Tryz.prog 57 #[.slice none 0 0, .int .i64 x] w fun e w' => e = .returned (.int .i64 (-1)) ∧ w = w' := by
  go_enter Tryz.func57, Tryz.ntmps57
  go_wp2
  go_loopg [5, 8] (1) (fun gg _ s8 wr => s8 = .int .i64 0 ∧ gg = 1 ∧ wr = w)
  case atStart => exact ⟨rfl, rfl, rfl⟩
  case round =>
    obtain ⟨rfl, _, rfl⟩ := hrel
    go_wp2
    go_ret
    exact ⟨rfl, rfl⟩
theorem contains_none (x : Int) (w : World) : Calls Tryz.prog 36 #[.slice none 0 0, .int .i64 x] w fun e w' => e = .returned (.bool false) ∧ w = w' := by
  have K := Lib.hid (index_none x w)
  go_enter Tryz.func36, Tryz.ntmps36
  go_wp2_with (go_at_call 57; (with_reducible refine K.out.mono ?_); rintro e w1 ⟨rfl, rfl⟩)
  go_ret
  exact ⟨rfl, rfl⟩
end Go.Proofs.YthhgageghkbjjaaGreat.Rl
