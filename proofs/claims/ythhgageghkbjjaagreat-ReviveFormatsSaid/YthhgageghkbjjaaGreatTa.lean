/- The law ReviveNone, walked. -/
import Derived.Test.YthhgageghkbjjaaGreatSy
namespace Go.Proofs.YthhgageghkbjjaaGreat.Ta
open Go.RowKit Go.Proofs.YthhgageghkbjjaaGreat.Ra Go.Proofs.YthhgageghkbjjaaGreat.Rc Go.Proofs.YthhgageghkbjjaaGreat.Re Go.Proofs.YthhgageghkbjjaaGreat.Rf Go.Proofs.YthhgageghkbjjaaGreat.Rj Go.Proofs.YthhgageghkbjjaaGreat.Rl Go.Proofs.YthhgageghkbjjaaGreat.Rn Go.Proofs.YthhgageghkbjjaaGreat.Ro Go.Proofs.YthhgageghkbjjaaGreat.Rp Go.Proofs.YthhgageghkbjjaaGreat.Rq Go.Proofs.YthhgageghkbjjaaGreat.Sq Go.Proofs.YthhgageghkbjjaaGreat.Ss Go.Proofs.YthhgageghkbjjaaGreat.St Go.Proofs.YthhgageghkbjjaaGreat.Su Go.Proofs.YthhgageghkbjjaaGreat.Sw Go.Proofs.YthhgageghkbjjaaGreat.Sx Go.Proofs.YthhgageghkbjjaaGreat.Sy
set_option maxRecDepth 8000

set_option maxHeartbeats 4000000 in
theorem none_c (s b : Int) (w : World) : Calls Tryz.prog 3 #[.agg #[.int .i64 s, .int .i64 b]] w fun e w' => e = .returned (.bool true) ∧ Below w.heap.size w w' := by
  have hbx := blk_new w #[.int .i64 s, .int .i64 b] 23
  have hb0 : Below w.heap.size w (w.alloc (.cells #[.int .i64 s, .int .i64 b] 23)) := (Below.refl _ _).alloc (Nat.le_refl _) _
  obtain ⟨w0, hw0⟩ : ∃ W, W = w.alloc (.cells #[.int .i64 s, .int .i64 b] 23) := ⟨_, rfl⟩
  rw [← hw0] at hbx hb0
  have HBX := Lib.hid hbx
  have HB0 := Lib.hid hb0
  have KO := Lib.hid (fun (W : World) => open_nil W)
  have KA := Lib.hid (fun (W : World) => awake_c W)
  have KS := Lib.hid (fun (W : World) => same_c W)
  have KF := Lib.hid (fun (W : World) => format_nil s b W)
  have hst := store_new2
  clear hbx hb0
  go_enter Tryz.func3, Tryz.ntmps3
  go_upto_region 1 with fail
  rw [← hw0]
  clear hw0
  go_upto_region 2 with (go_at_call 6; (with_reducible refine (KO.out _).mono ?_); rintro e w1 ⟨rfl, hb1⟩; have HB1 := Lib.hid (HB0.out.trans (hb1.mono HB0.out.size)); have HBX1 := Lib.hid (blk_below HBX.out hb1 (lt_of_block HBX.out)); clear hb1)
  have HBb := Lib.hid (blk_old (blk_new w1 emptyCells 30) (.cells #[.int .i64 0, .int .i64 0] 23))
  have hp := blk_new (w1.alloc (.cells emptyCells 30)) #[.int .i64 0, .int .i64 0] 23
  rw [sz_alloc] at hp
  have HP := Lib.hid hp
  have HBX2 := Lib.hid (blk_old (blk_old HBX1.out (.cells emptyCells 30)) (.cells #[.int .i64 0, .int .i64 0] 23))
  have HB2 : Hid (Below w.heap.size w ((w1.alloc (.cells emptyCells 30)).alloc (.cells #[.int .i64 0, .int .i64 0] 23))) := Lib.hid ((HB1.out.alloc HB1.out.size _).alloc (by rw [sz_alloc]; exact Nat.le_succ_of_le HB1.out.size) _)
  clear hp hst
  generalize ((w1.alloc (.cells emptyCells 30)).alloc (.cells #[.int .i64 0, .int .i64 0] 23)) = w2 at *
  generalize w1.heap.size = M at *
  go_wp2_with (first
    | (go_at_call 7; (with_reducible refine (KA.out _).mono ?_); rintro e w3 ⟨rfl, hb3⟩; have HB3 := Lib.hid (HB2.out.trans (hb3.mono HB2.out.size)); have hp3 := blk_below HP.out hb3 (lt_of_block HP.out); have HS3 := Lib.hid (blk_below HBb.out hb3 (lt_of_block HBb.out)); have HX3 := Lib.hid (blk_below HBX2.out hb3 (lt_of_block HBX2.out)); have g0 : w3.cell? ⟨M + 1, 0, none⟩ = some (.int .i64 0) := blk_cell hp3 0; have g1 : w3.cell? ⟨M + 1, 1, none⟩ = some (.int .i64 0) := blk_cell hp3 1; clear hb3 hp3)
    | (refine wpList_load_guard (by rfl) 30 (.tmp 3) rfl M rfl _ emptyCells _ _ HS3.out Tryz.underlying30 rfl sizeE' ?_)
    | (go_at_call 8; (refine (KS.out _).mono ?_); rintro e w5 ⟨rfl, hb5⟩; have HB5 := Lib.hid (HB3.out.trans (hb5.mono HB3.out.size)); have hx5 := blk_below HX3.out hb5 (lt_of_block HX3.out); have x0 : w5.cell? ⟨w.heap.size, 0, none⟩ = some (.int .i64 s) := blk_cell hx5 0; have x1 : w5.cell? ⟨w.heap.size, 1, none⟩ = some (.int .i64 b) := blk_cell hx5 1; clear hb5 hx5)
    | (go_at_call 9; (with_reducible refine (KF.out _).mono ?_); rintro e w6 ⟨rfl, hb6⟩; have HB6 := Lib.hid (HB5.out.trans (hb6.mono HB5.out.size)); clear hb6))
  go_ret
  exact ⟨rfl, HB6.out⟩
end Go.Proofs.YthhgageghkbjjaaGreat.Ta
