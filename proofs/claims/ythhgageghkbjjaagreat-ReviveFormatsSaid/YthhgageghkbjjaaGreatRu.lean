/- The walk of leaf.payload, where nothing is. -/
import Derived.Test.YthhgageghkbjjaaGreatRt
namespace Go.Proofs.YthhgageghkbjjaaGreat.Ru
open Go.RowKit Go.Proofs.YthhgageghkbjjaaGreat.Ra Go.Proofs.YthhgageghkbjjaaGreat.Rc Go.Proofs.YthhgageghkbjjaaGreat.Rd Go.Proofs.YthhgageghkbjjaaGreat.Re Go.Proofs.YthhgageghkbjjaaGreat.Rj Go.Proofs.YthhgageghkbjjaaGreat.Rl Go.Proofs.YthhgageghkbjjaaGreat.Rn Go.Proofs.YthhgageghkbjjaaGreat.Ro Go.Proofs.YthhgageghkbjjaaGreat.Rp Go.Proofs.YthhgageghkbjjaaGreat.Rq Go.Proofs.YthhgageghkbjjaaGreat.Rr Go.Proofs.YthhgageghkbjjaaGreat.Rs Go.Proofs.YthhgageghkbjjaaGreat.Rt
set_option maxRecDepth 8000

theorem rangeEn {w : World} {b : Nat} (h : w.heap[b]? = some (.cells emptyCells 30 (0, 0))) : w.rangeAt b 0 [.int .i64 0, .int .i64 0, .int .i64 0, .int .i64 0, .int .i64 0, .int .i64 0, .int .i64 0, .int .i64 0, .int .i64 0, .int .i64 0, .int .i64 0, .int .i64 0, .int .i64 0, .int .i64 0, .int .i64 0, .int .i64 0] := fun k v hk => by
  have hk8 : k < 16 := (List.getElem?_eq_some_iff.1 hk).1
  rw [Nat.zero_add, blk_cell h]
  have hcase : k = 0 ∨ k = 1 ∨ k = 2 ∨ k = 3 ∨ k = 4 ∨ k = 5 ∨ k = 6 ∨ k = 7 ∨ k = 8 ∨ k = 9 ∨ k = 10 ∨ k = 11 ∨ k = 12 ∨ k = 13 ∨ k = 14 ∨ k = 15 := by omega
  rcases hcase with rfl | rfl | rfl | rfl | rfl | rfl | rfl | rfl | rfl | rfl | rfl | rfl | rfl | rfl | rfl | rfl <;> exact hk
theorem sizeEn : (Tryz.prog.info? 26).map (·.size) = some 16 := by kernel_rfl
theorem cellP {w : World} {b : Nat} (h : w.heap[b]? = some (.cells emptyCells 30 (0, 0))) (j : Nat) (hj : j < 8) : w.cell? ⟨b, 16 + j, none⟩ = some (.slice none 0 0) := by
  rw [blk_cell h]
  have hcase : j = 0 ∨ j = 1 ∨ j = 2 ∨ j = 3 ∨ j = 4 ∨ j = 5 ∨ j = 6 ∨ j = 7 := by omega
  rcases hcase with rfl | rfl | rfl | rfl | rfl | rfl | rfl | rfl <;> rfl
theorem row_base {B C e sz n : Nat} {w : World} {v : Value} {xs : List Value} (h : w.ownsRow B e sz v n xs) (hC : C ≤ B) : w.ownsRow C e sz v n xs := by
  refine ⟨h.1, ?_⟩
  rcases h.2 with hn | ⟨g, cap, cur, hv, hg, r⟩
  · exact Or.inl hn
  · exact Or.inr ⟨g, cap, cur, hv, Nat.le_trans hC hg, r⟩
theorem rowL00 : rowL 1 [0, 0] = [0, 0] := by decide

set_option maxHeartbeats 4000000 in
theorem payload_c (s b : Int) (w : World) : Calls Tryz.prog 78 #[.agg emptyCells, .agg #[.int .i64 s, .int .i64 b]] w fun e w' => ∃ v, e = .returned v ∧ NewBytes w (List.replicate 16 0) v w' := by
  have H0 := Lib.hid (Boxes.start s b w)
  have HSE := Lib.hid sizeEn
  go_enter Tryz.func78, Tryz.ntmps78
  go_upto_region 1 with fail
  generalize ((w.alloc (.cells emptyCells 30)).alloc (.cells #[.int .i64 s, .int .i64 b] 23)) = w0 at *
  have HRE := Lib.hid (rangeEn H0.out.1)
  go_wp2_with (refine wpList_load_mid rfl 26 (.tmp 11) rfl w.heap.size 0 rfl _ _ HRE.out Tryz.underlying26 rfl HSE.out ?_)
  go_loopg [5, 6, 7, 13] (9) (fun gg s5 _ _ s13 wr => ∃ j : Nat, j ≤ 8 ∧ 8 - j < gg ∧ s13 = .int .i64 (j : Int) ∧ Hid (wr.ownsRow w0.heap.size 5 1 s5 (List.replicate (2 * j) (0 : UInt8)).length (byteVals (List.replicate (2 * j) 0)) ∧ Below w0.heap.size w0 wr))
  case atStart => exact ⟨0, by omega, by omega, rfl, Lib.hid ⟨World.ownsRow_nil _ _ _ _, Below.refl _ _⟩⟩
  case round =>
    obtain ⟨j, hj, hgg, rfl, HR⟩ := hrel
    by_cases hlt : j < 8
    · have hil : (j : Int) < 8 := by omega
      have hix := index_entry (j : Int) ⟨by omega, hil⟩
      have BW : Below wr.heap.size wr ((wr.alloc (.cells #[.int .i64 0, .int .i64 0] 25)).alloc (.cells #[.int .i64 0, .int .i64 0] 3)) := ((Below.refl _ _).alloc (Nat.le_refl _) _).alloc (by rw [sz_alloc]; omega) _
      have hb2 := blk_new (wr.alloc (.cells #[.int .i64 0, .int .i64 0] 25)) #[.int .i64 0, .int .i64 0] 3
      rw [sz_alloc] at hb2
      have hI : IntsIn 0 ((wr.alloc (.cells #[.int .i64 0, .int .i64 0] 25)).alloc (.cells #[.int .i64 0, .int .i64 0] 3)) (.slice (some ⟨wr.heap.size + 1, 0, none⟩) 2 2) [0, 0] := ints_of_blk hb2 rfl rfl
      have hkp := leafput_c 0 w0.heap.size u5 (List.replicate (2 * j) 0) 1 _ [0, 0] _ (Nat.zero_le _) (Nat.le_trans HR.out.2.size BW.size) (row_below HR.out.1 BW) (by omega) hI (by decide) (by decide) (by intro x hx; simp at hx; subst hx; decide) (by rw [List.length_replicate]; omega)
      rw [show (((1 : Nat)) : Int) = 1 from rfl] at hkp
      have KP := Lib.hid hkp
      clear hkp
      have HBW := Lib.hid BW
      clear BW hb2 hI
      go_wp2_with (go_at_call 81; (with_reducible refine KP.out.mono ?_); rintro e w5 ⟨v5, rfl, hp⟩; have HP := Lib.hid hp; have HB5 := Lib.hid (HR.out.2.trans ((HBW.out.mono HR.out.2.size).trans (below_grown (row_below HR.out.1 HBW.out) (Nat.le_trans HR.out.2.size HBW.out.size) hp.grown))); have cj := cellP (H0.out.later HB5.out).1 j hlt; have hX5 : w.heap.size < w5.heap.size := lt_of_block (H0.out.later HB5.out).1; clear hp)
      have HN : Hid (w5.ownsRow w0.heap.size 5 1 v5 (List.replicate (2 * (j + 1)) (0 : UInt8)).length (byteVals (List.replicate (2 * (j + 1)) 0)) ∧ Below w0.heap.size w0 w5) := Lib.hid ⟨by
        have := HP.out.row
        rw [rowL00, show List.replicate (2 * j) (0 : UInt8) ++ [0, 0] = List.replicate (2 * (j + 1)) 0 from by rw [show ([0, 0] : List UInt8) = List.replicate 2 0 from rfl, List.replicate_append_replicate, Nat.mul_add]] at this
        exact this, HB5.out⟩
      go_wp2
      go_loopg [5, 9, 10, 29] (1) (fun gg s5 _ _ s29 wr2 => s5 = v5 ∧ s29 = .int .i64 0 ∧ gg = 1 ∧ wr2 = w5)
      case atStart => exact ⟨rfl, rfl, rfl, rfl⟩
      case round =>
        obtain ⟨rfl, rfl, _, rfl⟩ := hrel
        go_wp2
        go_roundg (8 - (j + 1) + 1)
        case measure => omega
        case rel => exact ⟨j + 1, by omega, by omega, by go_num, HN⟩
    · have hil : ¬ (j : Int) < 8 := by omega
      obtain rfl : j = 8 := by omega
      go_wp2
      go_ret
      refine ⟨_, rfl, ?_, H0.out.2.2.trans (HR.out.2.mono H0.out.2.2.size)⟩
      exact row_base HR.out.1 H0.out.2.2.size
end Go.Proofs.YthhgageghkbjjaaGreat.Ru
