/- The walks of Owners, Counts, Free, where nothing is. -/
import Derived.Test.YthhgageghkbjjaaGreatRr
namespace Go.Proofs.YthhgageghkbjjaaGreat.Rs
open Go.RowKit Go.Proofs.YthhgageghkbjjaaGreat.Ra Go.Proofs.YthhgageghkbjjaaGreat.Rj Go.Proofs.YthhgageghkbjjaaGreat.Rl Go.Proofs.YthhgageghkbjjaaGreat.Rn Go.Proofs.YthhgageghkbjjaaGreat.Ro Go.Proofs.YthhgageghkbjjaaGreat.Rp Go.Proofs.YthhgageghkbjjaaGreat.Rq Go.Proofs.YthhgageghkbjjaaGreat.Rr
set_option maxRecDepth 8000

theorem next_none (W : World) (m : Nat) (ty : TypeId) (h : W.heap[m]? = some (.map #[] 0)) : (Instr.next (.pointer (some ⟨W.heap.size, 0, none⟩)) false ty).run Tryz.prog (W.alloc (.mapIter (some m) 0 #[] 0)) = .ok (.tuple #[.bool false]) (W.alloc (.mapIter (some m) 0 #[] 0)) := by
  rcases run_next_map (P := Tryz.prog) W ty m 0 0 #[] #[] 0 h (fun x hx => by cases hx) (Nat.le_refl _) with ⟨_, h⟩ | ⟨e, he, _⟩
  · exact h
  · simp [leftOf] at he

set_option maxHeartbeats 4000000 in
theorem owners_c (w : World) : Calls Tryz.prog 77 #[.agg emptyCells] w fun e w' => e = .returned (.tuple #[.slice none 0 0, .slice none 0 0, .int .i64 0]) ∧ Below w.heap.size w w' := by
  have hb0 := blk_new w emptyCells 30
  have H0 : Hid ((w.alloc (.cells emptyCells 30)).heap[w.heap.size]? = some (.cells emptyCells 30 (0, 0)) ∧ Below w.heap.size w (w.alloc (.cells emptyCells 30))) := Lib.hid ⟨hb0, (Below.refl _ _).alloc (Nat.le_refl _) _⟩
  have KS := Lib.hid (fun (W : World) => soundE W)
  have KA := Lib.hid (fun (W : World) => all_c W)
  have KT := Lib.hid (fun (W : World) => sort_nil W)
  clear hb0
  go_enter Tryz.func77, Tryz.ntmps77
  go_upto_region 1 with fail
  generalize (w.alloc (.cells emptyCells 30)) = w0 at *
  go_wp2_with (first
    | (refine wpList_load_row rfl 30 (.tmp 1) rfl w.heap.size rfl _ emptyCells _ _ H0.out.1 Tryz.underlying30 rfl sizeE' ?_)
    | (refine wpList_load_row rfl 30 (.tmp 1) rfl w.heap.size rfl _ emptyCells _ _ HX1.out.1 Tryz.underlying30 rfl sizeE' ?_)
    | (go_at_call 43; (with_reducible refine (KS.out _).mono ?_); rintro e w1 ⟨rfl, hb1⟩; have HX1 : Hid (w1.heap[w.heap.size]? = some (.cells emptyCells 30 (0, 0)) ∧ Below w.heap.size w w1) := Lib.hid ⟨blk_below H0.out.1 hb1 (lt_of_block H0.out.1), H0.out.2.trans (hb1.mono H0.out.2.size)⟩; clear hb1)
    | (go_at_call 48; (with_reducible refine (KA.out _).mono ?_); rintro e w3 ⟨mm, rfl, hmm, hmap, hb3⟩; have HX3 : Hid (Below w.heap.size w w3) := Lib.hid (HX1.out.2.trans (hb3.mono HX1.out.2.size)); have hrange := run_range_map (P := Tryz.prog) w3 99 94 130 mm #[] 0 Tryz.underlying99 hmap; have hnext := fun ty => next_none w3 mm ty hmap; clear hb3 hmm hmap))
  clear hrange
  have HFIN : Hid (Below w.heap.size w (w3.alloc (.mapIter (some mm) 0 #[] 0))) := Lib.hid (HX3.out.alloc HX3.out.size _)
  go_loopg [6, 7] (1) (fun gg s6 _ wr => s6 = .slice none 0 0 ∧ gg = 1 ∧ wr = w3.alloc (.mapIter (some mm) 0 #[] 0))
  case atStart => exact ⟨rfl, rfl, rfl⟩
  case round =>
    obtain ⟨rfl, _, rfl⟩ := hrel
    go_wp2_with (go_at_call 99; (with_reducible refine (KT.out _).mono ?_); rintro e w4 ⟨rfl, rfl⟩)
    clear hnext
    generalize w3.alloc (.mapIter (some mm) 0 #[] 0) = wq at *
    go_loopg [8, 10, 33] (1) (fun gg s8 _ s33 wr => s8 = .slice none 0 0 ∧ s33 = .int .i64 0 ∧ gg = 1 ∧ wr = wq)
    case atStart => exact ⟨rfl, rfl, rfl, rfl⟩
    case round =>
      obtain ⟨rfl, rfl, _, rfl⟩ := hrel
      go_wp2
      refine bodyPost_ret (v := .tuple #[.slice none 0 0, .slice none 0 0, .int .i64 0]) (by simp [results, Tryz.results77, go_sem]) rfl ⟨rfl, HFIN.out⟩
end Go.Proofs.YthhgageghkbjjaaGreat.Rs
