/- The walks of package delta, where nothing is: Sound, Clone, Apply of the state in which nothing is. -/
import Derived.Test.YthhgageghkbjjaaGreatRm
namespace Go.Proofs.YthhgageghkbjjaaGreat.Rn
open Go.RowKit Go.Proofs.YthhgageghkbjjaaGreat.Ra Go.Proofs.YthhgageghkbjjaaGreat.Rl
set_option maxRecDepth 8000

/-- The state in which nothing is. -/
def emptyCells : Array Value := #[.int .i64 0, .int .i64 0, .int .i64 0, .int .i64 0, .int .i64 0, .int .i64 0, .int .i64 0, .int .i64 0, .int .i64 0, .int .i64 0, .int .i64 0, .int .i64 0, .int .i64 0, .int .i64 0, .int .i64 0, .int .i64 0, .slice none 0 0, .slice none 0 0, .slice none 0 0, .slice none 0 0, .slice none 0 0, .slice none 0 0, .slice none 0 0, .slice none 0 0]
theorem emptyCells_is : emptyCells = #[.int .i64 0, .int .i64 0, .int .i64 0, .int .i64 0, .int .i64 0, .int .i64 0, .int .i64 0, .int .i64 0, .int .i64 0, .int .i64 0, .int .i64 0, .int .i64 0, .int .i64 0, .int .i64 0, .int .i64 0, .int .i64 0, .slice none 0 0, .slice none 0 0, .slice none 0 0, .slice none 0 0, .slice none 0 0, .slice none 0 0, .slice none 0 0, .slice none 0 0] := rfl

theorem in_c (n a b : Int) (w : World) : Calls Tryz.prog 68 #[.int .i64 n, .int .i64 a, .int .i64 b] w fun e w' => e = .returned (.bool (decide (a ≤ n ∧ n < b))) ∧ w = w' := by
  by_cases h1 : a ≤ n
  · have d1 : decide (a ≤ n) = true := decide_eq_true h1
    have hd : decide (a ≤ n ∧ n < b) = decide (n < b) := by simp [h1]
    rw [hd]
    go_enter Tryz.func68, Tryz.ntmps68
    go_wp2
    go_ret
    exact ⟨rfl, rfl⟩
  · have d1 : decide (a ≤ n) = false := decide_eq_false h1
    have hd : decide (a ≤ n ∧ n < b) = false := by simp [h1]
    rw [hd]
    go_enter Tryz.func68, Tryz.ntmps68
    go_wp2
    go_ret
    exact ⟨rfl, rfl⟩

theorem index_nil (f : Value) (w : World) : Calls Tryz.prog 94 #[.slice none 0 0, f] w fun e w' => e = .returned (.int .i64 (-1)) ∧ w = w' := by
  go_enter Tryz.func94, Tryz.ntmps94
  go_wp2
  go_loopg [5, 8] (1) (fun gg _ s8 wr => s8 = .int .i64 0 ∧ gg = 1 ∧ wr = w)
  case atStart => exact ⟨rfl, rfl, rfl⟩
  case round =>
    obtain ⟨rfl, _, rfl⟩ := hrel
    go_wp2
    go_ret
    exact ⟨rfl, rfl⟩
theorem contains_nil (f : Value) (w : World) : Calls Tryz.prog 69 #[.slice none 0 0, f] w fun e w' => e = .returned (.bool false) ∧ w = w' := by
  have K := Lib.hid (index_nil f w)
  go_enter Tryz.func69, Tryz.ntmps69
  go_wp2_with (go_at_call 94; (with_reducible refine K.out.mono ?_); rintro e w1 ⟨rfl, rfl⟩)
  go_ret
  exact ⟨rfl, rfl⟩

theorem index_entry (j : Int) (h : 0 ≤ j ∧ j < 8) (W : World) : (Instr.index 26 (.agg #[.int .i64 0, .int .i64 0, .int .i64 0, .int .i64 0, .int .i64 0, .int .i64 0, .int .i64 0, .int .i64 0, .int .i64 0, .int .i64 0, .int .i64 0, .int .i64 0, .int .i64 0, .int .i64 0, .int .i64 0, .int .i64 0]) (.int .i64 j)).run Tryz.prog W = .ok (.agg #[.int .i64 0, .int .i64 0]) W := by
  have hcase : j = 0 ∨ j = 1 ∨ j = 2 ∨ j = 3 ∨ j = 4 ∨ j = 5 ∨ j = 6 ∨ j = 7 := by omega
  rcases hcase with rfl | rfl | rfl | rfl | rfl | rfl | rfl | rfl <;> rfl

set_option maxHeartbeats 4000000 in
theorem sound_c (w : World) : Calls Tryz.prog 43 #[.agg #[.int .i64 0, .int .i64 0, .int .i64 0, .int .i64 0, .int .i64 0, .int .i64 0, .int .i64 0, .int .i64 0, .int .i64 0, .int .i64 0, .int .i64 0, .int .i64 0, .int .i64 0, .int .i64 0, .int .i64 0, .int .i64 0, .slice none 0 0, .slice none 0 0, .slice none 0 0, .slice none 0 0, .slice none 0 0, .slice none 0 0, .slice none 0 0, .slice none 0 0]] w fun e w' => e = .returned (.bool true) ∧ Below w.heap.size w w' := by
  have hbx := blk_new w #[.int .i64 0, .int .i64 0, .int .i64 0, .int .i64 0, .int .i64 0, .int .i64 0, .int .i64 0, .int .i64 0, .int .i64 0, .int .i64 0, .int .i64 0, .int .i64 0, .int .i64 0, .int .i64 0, .int .i64 0, .int .i64 0, .slice none 0 0, .slice none 0 0, .slice none 0 0, .slice none 0 0, .slice none 0 0, .slice none 0 0, .slice none 0 0, .slice none 0 0] 30
  have HB0 : Hid (Below w.heap.size w (w.alloc (.cells #[.int .i64 0, .int .i64 0, .int .i64 0, .int .i64 0, .int .i64 0, .int .i64 0, .int .i64 0, .int .i64 0, .int .i64 0, .int .i64 0, .int .i64 0, .int .i64 0, .int .i64 0, .int .i64 0, .int .i64 0, .int .i64 0, .slice none 0 0, .slice none 0 0, .slice none 0 0, .slice none 0 0, .slice none 0 0, .slice none 0 0, .slice none 0 0, .slice none 0 0] 30))) := Lib.hid ((Below.refl _ _).alloc (Nat.le_refl _) _)
  have HBX := Lib.hid hbx
  clear hbx
  go_enter Tryz.func43, Tryz.ntmps43
  go_wp2
  go_loopg [3, 4, 5, 8] (9) (fun gg _ _ _ s8 wr => ∃ j : Int, 0 ≤ j ∧ j ≤ 8 ∧ 8 - j < gg ∧ s8 = .int .i64 j ∧ Hid (Below (w.alloc (.cells #[.int .i64 0, .int .i64 0, .int .i64 0, .int .i64 0, .int .i64 0, .int .i64 0, .int .i64 0, .int .i64 0, .int .i64 0, .int .i64 0, .int .i64 0, .int .i64 0, .int .i64 0, .int .i64 0, .int .i64 0, .int .i64 0, .slice none 0 0, .slice none 0 0, .slice none 0 0, .slice none 0 0, .slice none 0 0, .slice none 0 0, .slice none 0 0, .slice none 0 0] 30)).heap.size (w.alloc (.cells #[.int .i64 0, .int .i64 0, .int .i64 0, .int .i64 0, .int .i64 0, .int .i64 0, .int .i64 0, .int .i64 0, .int .i64 0, .int .i64 0, .int .i64 0, .int .i64 0, .int .i64 0, .int .i64 0, .int .i64 0, .int .i64 0, .slice none 0 0, .slice none 0 0, .slice none 0 0, .slice none 0 0, .slice none 0 0, .slice none 0 0, .slice none 0 0, .slice none 0 0] 30)) wr))
  case atStart => exact ⟨0, by omega, by omega, by omega, rfl, Lib.hid (Below.refl _ _)⟩
  case round =>
    obtain ⟨j, hj0, hj, hgg, rfl, HR⟩ := hrel
    have KI := Lib.hid (fun (n a b : Int) (W : World) => in_c n a b W)
    have KC := Lib.hid (fun (f : Value) (W : World) => contains_nil f W)
    have hk := blk_below HBX.out HR.out (by rw [sz_alloc]; omega)
    have hlt : w.heap.size < wr.heap.size := lt_of_block hk
    have b0 : Below wr.heap.size wr (wr.alloc (.cells #[.int .i64 0, .int .i64 0] 25)) := (Below.refl _ _).alloc (Nat.le_refl _) _
    have HBR := Lib.hid (HR.out.trans (b0.mono HR.out.size))
    clear b0
    have hix := fun (h : j < 8) => index_entry j ⟨hj0, h⟩
    have hcase : j = 0 ∨ j = 1 ∨ j = 2 ∨ j = 3 ∨ j = 4 ∨ j = 5 ∨ j = 6 ∨ j = 7 ∨ j = 8 := by omega
    rcases hcase with rfl | rfl | rfl | rfl | rfl | rfl | rfl | rfl | rfl
    · have hix := hix (by decide)
      have cj : wr.cell? ⟨w.heap.size, 16, none⟩ = some (.slice none 0 0) := blk_cell hk 16
      clear hk hj hj0
      go_wp2_with (first
        | (go_at_call 68; (with_reducible refine (KI.out _ _ _ _).mono ?_); rintro e w2 ⟨rfl, rfl⟩)
        | (go_at_call 69; (with_reducible refine (KC.out _ _).mono ?_); rintro e w2 ⟨rfl, rfl⟩))
      go_roundg (8)
      case measure => omega
      case rel => exact ⟨1, by omega, by omega, by omega, by go_num, HBR⟩
    · have hix := hix (by decide)
      have cj : wr.cell? ⟨w.heap.size, 17, none⟩ = some (.slice none 0 0) := blk_cell hk 17
      clear hk hj hj0
      go_wp2_with (first
        | (go_at_call 68; (with_reducible refine (KI.out _ _ _ _).mono ?_); rintro e w2 ⟨rfl, rfl⟩)
        | (go_at_call 69; (with_reducible refine (KC.out _ _).mono ?_); rintro e w2 ⟨rfl, rfl⟩))
      go_roundg (7)
      case measure => omega
      case rel => exact ⟨2, by omega, by omega, by omega, by go_num, HBR⟩
    · have hix := hix (by decide)
      have cj : wr.cell? ⟨w.heap.size, 18, none⟩ = some (.slice none 0 0) := blk_cell hk 18
      clear hk hj hj0
      go_wp2_with (first
        | (go_at_call 68; (with_reducible refine (KI.out _ _ _ _).mono ?_); rintro e w2 ⟨rfl, rfl⟩)
        | (go_at_call 69; (with_reducible refine (KC.out _ _).mono ?_); rintro e w2 ⟨rfl, rfl⟩))
      go_roundg (6)
      case measure => omega
      case rel => exact ⟨3, by omega, by omega, by omega, by go_num, HBR⟩
    · have hix := hix (by decide)
      have cj : wr.cell? ⟨w.heap.size, 19, none⟩ = some (.slice none 0 0) := blk_cell hk 19
      clear hk hj hj0
      go_wp2_with (first
        | (go_at_call 68; (with_reducible refine (KI.out _ _ _ _).mono ?_); rintro e w2 ⟨rfl, rfl⟩)
        | (go_at_call 69; (with_reducible refine (KC.out _ _).mono ?_); rintro e w2 ⟨rfl, rfl⟩))
      go_roundg (5)
      case measure => omega
      case rel => exact ⟨4, by omega, by omega, by omega, by go_num, HBR⟩
    · have hix := hix (by decide)
      have cj : wr.cell? ⟨w.heap.size, 20, none⟩ = some (.slice none 0 0) := blk_cell hk 20
      clear hk hj hj0
      go_wp2_with (first
        | (go_at_call 68; (with_reducible refine (KI.out _ _ _ _).mono ?_); rintro e w2 ⟨rfl, rfl⟩)
        | (go_at_call 69; (with_reducible refine (KC.out _ _).mono ?_); rintro e w2 ⟨rfl, rfl⟩))
      go_roundg (4)
      case measure => omega
      case rel => exact ⟨5, by omega, by omega, by omega, by go_num, HBR⟩
    · have hix := hix (by decide)
      have cj : wr.cell? ⟨w.heap.size, 21, none⟩ = some (.slice none 0 0) := blk_cell hk 21
      clear hk hj hj0
      go_wp2_with (first
        | (go_at_call 68; (with_reducible refine (KI.out _ _ _ _).mono ?_); rintro e w2 ⟨rfl, rfl⟩)
        | (go_at_call 69; (with_reducible refine (KC.out _ _).mono ?_); rintro e w2 ⟨rfl, rfl⟩))
      go_roundg (3)
      case measure => omega
      case rel => exact ⟨6, by omega, by omega, by omega, by go_num, HBR⟩
    · have hix := hix (by decide)
      have cj : wr.cell? ⟨w.heap.size, 22, none⟩ = some (.slice none 0 0) := blk_cell hk 22
      clear hk hj hj0
      go_wp2_with (first
        | (go_at_call 68; (with_reducible refine (KI.out _ _ _ _).mono ?_); rintro e w2 ⟨rfl, rfl⟩)
        | (go_at_call 69; (with_reducible refine (KC.out _ _).mono ?_); rintro e w2 ⟨rfl, rfl⟩))
      go_roundg (2)
      case measure => omega
      case rel => exact ⟨7, by omega, by omega, by omega, by go_num, HBR⟩
    · have hix := hix (by decide)
      have cj : wr.cell? ⟨w.heap.size, 23, none⟩ = some (.slice none 0 0) := blk_cell hk 23
      clear hk hj hj0
      go_wp2_with (first
        | (go_at_call 68; (with_reducible refine (KI.out _ _ _ _).mono ?_); rintro e w2 ⟨rfl, rfl⟩)
        | (go_at_call 69; (with_reducible refine (KC.out _ _).mono ?_); rintro e w2 ⟨rfl, rfl⟩))
      go_roundg (1)
      case measure => omega
      case rel => exact ⟨8, by omega, by omega, by omega, by go_num, HBR⟩
    · clear hix
      go_wp2
      go_ret
      exact ⟨rfl, HB0.out.trans (HR.out.mono HB0.out.size)⟩
end Go.Proofs.YthhgageghkbjjaaGreat.Rn
