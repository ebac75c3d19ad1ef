/- The reference's Same, of the empty state and itself. -/
import Derived.Test.YthhgageghkbjjaaGreatSw
namespace Go.Proofs.YthhgageghkbjjaaGreat.Sx
open Go.RowKit Go.Proofs.YthhgageghkbjjaaGreat.Ra Go.Proofs.YthhgageghkbjjaaGreat.Rc Go.Proofs.YthhgageghkbjjaaGreat.Re Go.Proofs.YthhgageghkbjjaaGreat.Rj Go.Proofs.YthhgageghkbjjaaGreat.Rl Go.Proofs.YthhgageghkbjjaaGreat.Rn Go.Proofs.YthhgageghkbjjaaGreat.Ro Go.Proofs.YthhgageghkbjjaaGreat.Rp Go.Proofs.YthhgageghkbjjaaGreat.Rq Go.Proofs.YthhgageghkbjjaaGreat.Ru Go.Proofs.YthhgageghkbjjaaGreat.Sl
set_option maxRecDepth 8000

theorem same0_c (w : World) : Calls Tryz.prog 24 #[.slice none 0 0, .slice none 0 0] w fun e w' => e = .returned (.bool true) ∧ w = w' := by
  go_enter Tryz.func24, Tryz.ntmps24
  go_wp2
  go_loopg [5] (1) (fun gg s5 wr => s5 = .int .i64 0 ∧ gg = 1 ∧ wr = w)
  case atStart => exact ⟨rfl, rfl, rfl⟩
  case round =>
    obtain ⟨rfl, _, rfl⟩ := hrel
    go_wp2
    go_ret
    exact ⟨rfl, rfl⟩

/-- Two boxes that hold the empty state. -/
def Two (A C : Nat) (w W : World) : Prop := W.heap[A]? = some (.cells emptyCells 30 (0, 0)) ∧ W.heap[C]? = some (.cells emptyCells 30 (0, 0)) ∧ Below w.heap.size w W
theorem Two.start (w : World) : Two w.heap.size (w.heap.size + 1) w ((w.alloc (.cells emptyCells 30)).alloc (.cells emptyCells 30)) := by
  have h2 := blk_new (w.alloc (.cells emptyCells 30)) emptyCells 30
  rw [sz_alloc] at h2
  exact ⟨blk_old (blk_new _ _ _) _, h2, ((Below.refl _ _).alloc (Nat.le_refl _) _).alloc (by rw [sz_alloc]; omega) _⟩

set_option maxHeartbeats 4000000 in
theorem same_c (w : World) : Calls Tryz.prog 8 #[.agg emptyCells, .agg emptyCells] w fun e w' => e = .returned (.bool true) ∧ Below w.heap.size w w' := by
  have H0 := Lib.hid (Two.start w)
  go_enter Tryz.func8, Tryz.ntmps8
  go_upto_region 1 with fail
  generalize ((w.alloc (.cells emptyCells 30)).alloc (.cells emptyCells 30)) = w0 at *
  go_wp2_with (fail)
  go_loopg [5] (9) (fun gg s5 wr => ∃ j : Nat, j ≤ 8 ∧ 8 - j < gg ∧ s5 = .int .i64 (j : Int) ∧ Hid (Two w.heap.size (w.heap.size + 1) w wr))
  case atStart => exact ⟨0, by omega, by omega, rfl, H0⟩
  case round =>
    obtain ⟨j, hj, hgg, rfl, HR⟩ := hrel
    by_cases hlt : j < 8
    · have hil : (j : Int) < 8 := by omega
      have hix := index_entry (j : Int) ⟨by omega, hil⟩
      have a0 : wr.cell? ⟨w.heap.size, j * 2, none⟩ = some (.int .i64 0) := cellE HR.out.1 (j * 2) (by omega)
      have a1 : wr.cell? ⟨w.heap.size, j * 2 + 1, none⟩ = some (.int .i64 0) := cellE HR.out.1 (j * 2 + 1) (by omega)
      have b0 : wr.cell? ⟨w.heap.size + 1, j * 2, none⟩ = some (.int .i64 0) := cellE HR.out.2.1 (j * 2) (by omega)
      have b1 : wr.cell? ⟨w.heap.size + 1, j * 2 + 1, none⟩ = some (.int .i64 0) := cellE HR.out.2.1 (j * 2 + 1) (by omega)
      have a2 : wr.cell? ⟨w.heap.size, 16 + j, none⟩ = some (.slice none 0 0) := cellP HR.out.1 j hlt
      have b2 : wr.cell? ⟨w.heap.size + 1, 16 + j, none⟩ = some (.slice none 0 0) := cellP HR.out.2.1 j hlt
      go_wp2
      go_quiet (first | (go_at_call 24; exact Calls.quiet_of_same ((same0_c _).mono fun _ _ h => ⟨h.1, h.2.symm⟩)))
      have HR2 : Hid (Two w.heap.size (w.heap.size + 1) w (wr.drewN nq)) := Lib.hid ⟨HR.out.1, HR.out.2.1, below_drewN HR.out.2.2 nq⟩
      go_wp2
      go_roundg (8 - (j + 1) + 1)
      case measure => omega
      case rel => exact ⟨j + 1, by omega, by omega, by go_num, HR2⟩
    · have hil : ¬ (j : Int) < 8 := by omega
      obtain rfl : j = 8 := by omega
      go_wp2
      go_ret
      exact ⟨rfl, HR.out.2.2⟩

/-- The reference's May. -/
theorem may_c (s b : Int) (w : World) : Calls Tryz.prog 16 #[.agg #[.int .i64 s, .int .i64 b]] w fun e w' => e = .returned (.bool (decide (MayP s b))) ∧ Below w.heap.size w w' := by
  have hb0 : Below w.heap.size w (w.alloc (.cells #[.int .i64 s, .int .i64 b] 23)) := (Below.refl _ _).alloc (Nat.le_refl _) _
  have hbx := blk_new w #[.int .i64 s, .int .i64 b] 23
  obtain ⟨w0, hw0⟩ : ∃ W, W = w.alloc (.cells #[.int .i64 s, .int .i64 b] 23) := ⟨_, rfl⟩
  rw [← hw0] at hb0 hbx
  have p0 : w0.cell? ⟨w.heap.size, 0, none⟩ = some (.int .i64 s) := blk_cell hbx 0
  have p1 : w0.cell? ⟨w.heap.size, 1, none⟩ = some (.int .i64 b) := blk_cell hbx 1
  have HB0 := Lib.hid hb0
  clear hb0 hbx
  have he : (decide (MayP s b)) = (decide (6 ≤ s) && (decide (s ≤ 24) && (decide (2 ≤ b) && decide (b ≤ 16)))) := by
    unfold MayP
    rw [Bool.eq_iff_iff]
    simp
    exact decide_eq_true_iff
  rw [he]
  clear he
  by_cases h1 : 6 ≤ s
  · by_cases h2 : s ≤ 24
    · by_cases h3 : 2 ≤ b
      · by_cases h4 : b ≤ 16
        · simp only [h1, h2, h3, h4, decide_true, Bool.and_self]
          go_enter Tryz.func16, Tryz.ntmps16
          go_upto_region 1 with fail
          rw [← hw0]
          go_wp2
          go_ret
          exact ⟨rfl, by rw [← hw0]; exact HB0.out⟩
        · simp only [h1, h2, h3, h4, decide_true, decide_false, Bool.and_false]
          go_enter Tryz.func16, Tryz.ntmps16
          go_upto_region 1 with fail
          rw [← hw0]
          go_wp2
          go_ret
          exact ⟨rfl, by rw [← hw0]; exact HB0.out⟩
      · simp only [h1, h2, h3, decide_true, decide_false, Bool.and_false, Bool.false_and]
        go_enter Tryz.func16, Tryz.ntmps16
        go_upto_region 1 with fail
        rw [← hw0]
        go_wp2
        go_ret
        exact ⟨rfl, by rw [← hw0]; exact HB0.out⟩
    · simp only [h1, h2, decide_true, decide_false, Bool.and_false, Bool.false_and]
      go_enter Tryz.func16, Tryz.ntmps16
      go_upto_region 1 with fail
      rw [← hw0]
      go_wp2
      go_ret
      exact ⟨rfl, by rw [← hw0]; exact HB0.out⟩
  · simp only [h1, decide_false, Bool.false_and]
    go_enter Tryz.func16, Tryz.ntmps16
    go_upto_region 1 with fail
    rw [← hw0]
    go_wp2
    go_ret
    exact ⟨rfl, by rw [← hw0]; exact HB0.out⟩
end Go.Proofs.YthhgageghkbjjaaGreat.Sx
