/- The laws' awake. -/
import Derived.Test.YthhgageghkbjjaaGreatSx
namespace Go.Proofs.YthhgageghkbjjaaGreat.Sy
open Go.RowKit Go.Proofs.YthhgageghkbjjaaGreat.Ra Go.Proofs.YthhgageghkbjjaaGreat.Rc Go.Proofs.YthhgageghkbjjaaGreat.Re Go.Proofs.YthhgageghkbjjaaGreat.Rf Go.Proofs.YthhgageghkbjjaaGreat.Rj Go.Proofs.YthhgageghkbjjaaGreat.Rl Go.Proofs.YthhgageghkbjjaaGreat.Rn Go.Proofs.YthhgageghkbjjaaGreat.Ro Go.Proofs.YthhgageghkbjjaaGreat.Rp Go.Proofs.YthhgageghkbjjaaGreat.Rq Go.Proofs.YthhgageghkbjjaaGreat.Sq Go.Proofs.YthhgageghkbjjaaGreat.Ss Go.Proofs.YthhgageghkbjjaaGreat.St Go.Proofs.YthhgageghkbjjaaGreat.Su Go.Proofs.YthhgageghkbjjaaGreat.Sw Go.Proofs.YthhgageghkbjjaaGreat.Sx
set_option maxRecDepth 8000

theorem new_on (n : Nat) : OnDev (newDev n) := ⟨rfl, rfl⟩
theorem new_whole (n : Nat) : Whole (newDev n) := by
  show (zeroL (n * 64)).length = n * 64
  exact List.length_replicate

set_option maxHeartbeats 4000000 in
theorem awake_c (w : World) : Calls Tryz.prog 7 #[] w fun e w' => e = .returned (.bool true) ∧ Below w.heap.size w w' := by
  have hm : MayP 6 2 := by unfold MayP; decide
  have kn := new_c 60 w (by decide) (by decide)
  rw [show ((60 : Nat) : Int) = 60 from rfl] at kn
  have KN := Lib.hid kn
  have KF := Lib.hid (fun (W : World) (D S N : Nat) (h : DevAt w.heap.size W D S N (.slice none 0 0) (newDev 60)) => format_c hm h (new_on 60) (by show (40 : Int) + 6 * 2 ≤ 60; decide) (by decide))
  have hfd := formed (new_whole 60) (new_on 60) (by show 40 ≤ 60; decide) 6 2
  have hn : (savedDev 6 2 (fmtK (newDev 60) 16)).n = 60 := by rw [saved_n, fmtK_n]; rfl
  generalize savedDev 6 2 (fmtK (newDev 60) 16) = d at *
  have KO := Lib.hid (fun (W : World) (D S N : Nat) (lv : Value) (h : DevAt w.heap.size W D S N lv d) => open_c hm h hfd (by rw [hn]; decide))
  have KS := Lib.hid (fun (W : World) => same_c W)
  have hst := store_new2
  clear kn hfd hn
  go_enter Tryz.func7, Tryz.ntmps7
  go_upto_region 4 with (first
    | (go_at_call 10; (with_reducible refine KN.out.mono ?_); rintro e w1 ⟨D, S, N, rfl, hd1, hb1⟩; have HD1 := Lib.hid hd1; have HB1 := Lib.hid hb1; clear hd1 hb1)
    | (go_at_call 9; (with_reducible refine (KF.out _ _ _ _ HD1.out).mono ?_); rintro e w2 ⟨rfl, ⟨lv2, hd2⟩, hs2⟩; have HD2 := Lib.hid hd2; have HB2 := Lib.hid (HB1.out.trans hs2.below); clear hd2 hs2)
    | (go_at_call 6; (with_reducible refine (KO.out _ _ _ _ _ HD2.out).mono ?_); rintro e w3 ⟨rfl, hb3⟩; have HB3 := Lib.hid (HB2.out.trans (hb3.mono HB2.out.size)); clear hb3))
  have HBb := Lib.hid (blk_old (blk_new w3 emptyCells 30) (.cells #[.int .i64 6, .int .i64 2] 23))
  have hp := blk_new (w3.alloc (.cells emptyCells 30)) #[.int .i64 6, .int .i64 2] 23
  rw [sz_alloc] at hp
  have HP := Lib.hid hp
  have HB4 : Hid (Below w.heap.size w ((w3.alloc (.cells emptyCells 30)).alloc (.cells #[.int .i64 6, .int .i64 2] 23))) := Lib.hid ((HB3.out.alloc HB3.out.size _).alloc (by rw [sz_alloc]; exact Nat.le_succ_of_le HB3.out.size) _)
  clear hp hst
  generalize ((w3.alloc (.cells emptyCells 30)).alloc (.cells #[.int .i64 6, .int .i64 2] 23)) = w4 at *
  generalize w3.heap.size = M at *
  go_wp2_with (first
    | (refine wpList_load_guard (by rfl) 30 (.tmp 4) rfl M rfl _ emptyCells _ _ HBb.out Tryz.underlying30 rfl sizeE' ?_)
    | (go_at_call 8; (refine (KS.out _).mono ?_); rintro e w5 ⟨rfl, hb5⟩; have HB5 := Lib.hid (HB4.out.trans (hb5.mono HB4.out.size)); have hp5 := blk_below HP.out hb5 (lt_of_block HP.out); have g0 : w5.cell? ⟨M + 1, 0, none⟩ = some (.int .i64 6) := blk_cell hp5 0; clear hb5 hp5))
  go_ret
  exact ⟨rfl, HB5.out⟩
end Go.Proofs.YthhgageghkbjjaaGreat.Sy
