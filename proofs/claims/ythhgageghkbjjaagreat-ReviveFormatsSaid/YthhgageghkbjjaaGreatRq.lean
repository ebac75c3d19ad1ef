/- The walks of package owner, where nothing is. -/
import Derived.Test.YthhgageghkbjjaaGreatRp
import Derived.Laws.IdiomRangeMap
import Derived.WideLaws
import Derived.WideMake
namespace Go.Proofs.YthhgageghkbjjaaGreat.Rq
open Go.RowKit Go.Proofs.YthhgageghkbjjaaGreat.Ra Go.Proofs.YthhgageghkbjjaaGreat.Rj Go.Proofs.YthhgageghkbjjaaGreat.Rl Go.Proofs.YthhgageghkbjjaaGreat.Rn Go.Proofs.YthhgageghkbjjaaGreat.Ro Go.Proofs.YthhgageghkbjjaaGreat.Rp
set_option maxRecDepth 8000

theorem index_place (j : Int) (h : 0 ≤ j ∧ j < 8) (W : World) : (Instr.index 28 (.agg #[.slice none 0 0, .slice none 0 0, .slice none 0 0, .slice none 0 0, .slice none 0 0, .slice none 0 0, .slice none 0 0, .slice none 0 0]) (.int .i64 j)).run Tryz.prog W = .ok (.slice none 0 0) W := by
  have hcase : j = 0 ∨ j = 1 ∨ j = 2 ∨ j = 3 ∨ j = 4 ∨ j = 5 ∨ j = 6 ∨ j = 7 := by omega
  rcases hcase with rfl | rfl | rfl | rfl | rfl | rfl | rfl | rfl <;> rfl
theorem rangeP {w : World} {b : Nat} (h : w.heap[b]? = some (.cells emptyCells 30 (0, 0))) : w.rangeAt b 16 [.slice none 0 0, .slice none 0 0, .slice none 0 0, .slice none 0 0, .slice none 0 0, .slice none 0 0, .slice none 0 0, .slice none 0 0] := fun k v hk => by
  have hk8 : k < 8 := (List.getElem?_eq_some_iff.1 hk).1
  rw [blk_cell h]
  have hcase : k = 0 ∨ k = 1 ∨ k = 2 ∨ k = 3 ∨ k = 4 ∨ k = 5 ∨ k = 6 ∨ k = 7 := by omega
  rcases hcase with rfl | rfl | rfl | rfl | rfl | rfl | rfl | rfl <;> exact hk
theorem sizeP : (Tryz.prog.info? 28).map (·.size) = some 8 := by kernel_rfl

set_option maxHeartbeats 4000000 in
theorem all_c (w : World) : Calls Tryz.prog 48 #[.agg emptyCells] w fun e w' => ∃ m, e = .returned (.map (some m)) ∧ w.heap.size ≤ m ∧ w'.heap[m]? = some (.map #[] 0) ∧ Below w.heap.size w w' := by
  have hmk := fun (W : World) => run_makeMap_plain (P := Tryz.prog) (w := W) 99
  have hb0 := blk_old (blk_new w emptyCells 30) (.map #[] 0)
  have HR := Lib.hid (rangeP hb0)
  have hb1 : ((w.alloc (.cells emptyCells 30)).alloc (.map #[] 0)).heap[w.heap.size + 1]? = some (.map #[] 0) := by
    have := heap_alloc_new (w.alloc (.cells emptyCells 30)) (.map #[] 0)
    rwa [sz_alloc] at this
  have H0 : Hid (((w.alloc (.cells emptyCells 30)).alloc (.map #[] 0)).heap[w.heap.size + 1]? = some (.map #[] 0) ∧ Below w.heap.size w ((w.alloc (.cells emptyCells 30)).alloc (.map #[] 0))) := Lib.hid ⟨hb1, ((Below.refl _ _).alloc (Nat.le_refl _) _).alloc (by rw [sz_alloc]; omega) _⟩
  have HSP := Lib.hid sizeP
  clear hb0 hb1
  go_enter Tryz.func48, Tryz.ntmps48
  go_upto_region 2 with fail
  generalize ((w.alloc (.cells emptyCells 30)).alloc (.map #[] 0)) = w0 at *
  clear hmk
  go_wp2_with (refine wpList_load_mid rfl 28 (.tmp 9) rfl w.heap.size 16 rfl _ _ HR.out Tryz.underlying28 rfl HSP.out ?_)
  go_loopg [4, 5, 11] (9) (fun gg _ _ s11 wr => ∃ j : Int, 0 ≤ j ∧ j ≤ 8 ∧ 8 - j < gg ∧ s11 = .int .i64 j ∧ wr = w0)
  case atStart => exact ⟨0, by omega, by omega, by omega, rfl, rfl⟩
  case round =>
    obtain ⟨j, hj0, hj, hgg, rfl, rfl⟩ := hrel
    by_cases hil : j < 8
    · have hix := index_place j ⟨hj0, hil⟩
      go_wp2
      go_loopg [6, 7, 17] (1) (fun gg _ _ s17 wr2 => s17 = .int .i64 0 ∧ gg = 1 ∧ wr2 = wr)
      case atStart => exact ⟨rfl, rfl, rfl⟩
      case round =>
        obtain ⟨rfl, _, rfl⟩ := hrel
        clear hix
        go_wp2
        go_roundg (8 - j).toNat
        case measure => omega
        case rel => exact ⟨j + 1, by omega, by omega, by omega, by go_num, rfl⟩
    · go_wp2
      go_ret
      exact ⟨_, rfl, by omega, H0.out.1, H0.out.2⟩

/-- The blocks of a state in which nothing is, and of a geometry. -/
def Boxes (a p : Nat) (s b : Int) (w w' : World) : Prop := w'.heap[a]? = some (.cells emptyCells 30 (0, 0)) ∧ w'.heap[p]? = some (.cells #[.int .i64 s, .int .i64 b] 23 (0, 0)) ∧ Below w.heap.size w w'
theorem Boxes.later {a p : Nat} {s b : Int} {w w1 w2 : World} (h : Boxes a p s b w w1) (hb : Below w1.heap.size w1 w2) : Boxes a p s b w w2 :=
  ⟨blk_below h.1 hb (lt_of_block h.1), blk_below h.2.1 hb (lt_of_block h.2.1), h.2.2.trans (hb.mono h.2.2.size)⟩
theorem Boxes.plat {a p : Nat} {s b : Int} {w w1 : World} (h : Boxes a p s b w w1) : w1.cell? ⟨p, 0, none⟩ = some (.int .i64 s) ∧ w1.cell? ⟨p, 1, none⟩ = some (.int .i64 b) := ⟨blk_cell h.2.1 0, blk_cell h.2.1 1⟩
theorem Boxes.start (s b : Int) (w : World) : Boxes w.heap.size (w.heap.size + 1) s b w ((w.alloc (.cells emptyCells 30)).alloc (.cells #[.int .i64 s, .int .i64 b] 23)) := by
  have h1 := blk_new (w.alloc (.cells emptyCells 30)) #[.int .i64 s, .int .i64 b] 23
  rw [sz_alloc] at h1
  exact ⟨blk_old (blk_new w emptyCells 30) _, h1, ((Below.refl _ _).alloc (Nat.le_refl _) _).alloc (by rw [sz_alloc]; omega) _⟩

set_option maxHeartbeats 4000000 in
theorem within_c (s b : Int) (hm : MayP s b) (w : World) : Calls Tryz.prog 46 #[.agg emptyCells, .agg #[.int .i64 s, .int .i64 b]] w fun e w' => e = .returned (.int .i64 0) ∧ Below w.heap.size w w' := by
  have H0 := Lib.hid (Boxes.start s b w)
  have KP := Lib.hid (fun (W : World) => by have := check_c s b W; rw [if_pos hm] at this; exact this)
  have KS := Lib.hid (fun (W : World) => soundE W)
  have KN := Lib.hid (fun (f : Value) (W : World) => contains_nil f W)
  have HS := Lib.hid sizeE'
  have HSP := Lib.hid sizeP
  have HRP := Lib.hid (fun (W : World) (b : Nat) h => rangeP (w := W) (b := b) h)
  clear hm
  go_enter Tryz.func46, Tryz.ntmps46
  go_upto_region 1 with fail
  generalize ((w.alloc (.cells emptyCells 30)).alloc (.cells #[.int .i64 s, .int .i64 b] 23)) = w0 at *
  obtain ⟨p0, p1⟩ := H0.out.plat
  go_wp2_with (first
    | (refine wpList_load_row rfl 30 (.tmp 2) rfl w.heap.size rfl _ emptyCells _ _ HX1.out.1 Tryz.underlying30 rfl sizeE' ?_)
    | (go_at_call 40; (with_reducible refine (KP.out _).mono ?_); rintro e w1 ⟨rfl, hb1⟩; have HX1 := Lib.hid (H0.out.later hb1); clear hb1)
    | (go_at_call 43; (with_reducible refine (KS.out _).mono ?_); rintro e w2 ⟨rfl, hb2⟩; have HX2 := Lib.hid (HX1.out.later hb2); clear hb2)
    | (refine wpList_load_mid rfl 28 (.tmp 16) rfl w.heap.size 16 rfl _ _ (HRP.out _ _ HX2.out.1) Tryz.underlying28 rfl HSP.out ?_))
  go_loopg [7, 18] (9) (fun gg _ s18 wr => ∃ j : Int, 0 ≤ j ∧ j ≤ 8 ∧ 8 - j < gg ∧ s18 = .int .i64 j ∧ wr = w2)
  case atStart => exact ⟨0, by omega, by omega, by omega, rfl, rfl⟩
  case round =>
    obtain ⟨j, hj0, hj, hgg, rfl, rfl⟩ := hrel
    by_cases hil : j < 8
    · have hix := index_place j ⟨hj0, hil⟩
      go_wp2_with (go_at_call 69; (with_reducible refine (KN.out _ _).mono ?_); rintro e w3 ⟨rfl, rfl⟩)
      go_roundg (8 - j).toNat
      case measure => omega
      case rel => exact ⟨j + 1, by omega, by omega, by omega, by go_num, rfl⟩
    · go_wp2
      go_ret
      exact ⟨rfl, HX2.out.2.2⟩

theorem len_owners (W : World) (m : Nat) (ty : TypeId) (h : W.heap[m]? = some (.map #[] 0)) : (Builtin.len_ #[99] ty #[.map (some m)]).run Tryz.prog W = .ok (.int .i64 0) W := by
  have := run_len_map (P := Tryz.prog) (w := W) 99 ty m #[] 0 (by kernel_rfl) h
  rw [this]
  rfl

set_option maxHeartbeats 4000000 in
theorem fit_c (s b : Int) (hm : MayP s b) (w : World) : Calls Tryz.prog 22 #[.agg emptyCells, .agg #[.int .i64 s, .int .i64 b]] w fun e w' => e = .returned (.int .i64 0) ∧ Below w.heap.size w w' := by
  have H0 := Lib.hid (Boxes.start s b w)
  have KW := Lib.hid (fun (W : World) => within_c s b hm W)
  have KC := Lib.hid (fun (W : World) => capacity_c s b hm W)
  have KA := Lib.hid (fun (W : World) => all_c W)
  have hcap : 0 ≤ (s - 2 - 2) * b := Int.mul_nonneg (by have := hm.1; omega) (by have := hm.2.2.1; omega)
  have hcap' : ¬ (s - 2 - 2) * b < 0 := by omega
  generalize (s - 2 - 2) * b = cap at *
  clear hm
  go_enter Tryz.func22, Tryz.ntmps22
  go_upto_region 1 with fail
  generalize ((w.alloc (.cells emptyCells 30)).alloc (.cells #[.int .i64 s, .int .i64 b] 23)) = w0 at *
  obtain ⟨p0, p1⟩ := H0.out.plat
  go_wp2_with (first
    | (refine wpList_load_row rfl 30 (.tmp 2) rfl w.heap.size rfl _ emptyCells _ _ H0.out.1 Tryz.underlying30 rfl sizeE' ?_)
    | (refine wpList_load_row rfl 30 (.tmp 2) rfl w.heap.size rfl _ emptyCells _ _ HX2.out.1 Tryz.underlying30 rfl sizeE' ?_)
    | (go_at_call 46; (with_reducible refine (KW.out _).mono ?_); rintro e w1 ⟨rfl, hb1⟩; have HX1 := Lib.hid (H0.out.later hb1); obtain ⟨q0, q1⟩ := HX1.out.plat; clear hb1)
    | (go_at_call 47; (with_reducible refine (KC.out _).mono ?_); rintro e w2 ⟨rfl, hb2⟩; have HX2 := Lib.hid (HX1.out.later hb2); clear hb2)
    | (go_at_call 48; (with_reducible refine (KA.out _).mono ?_); rintro e w3 ⟨mm, rfl, hmm, hmap, hb3⟩; have HX3 := Lib.hid (HX2.out.later hb3); have hlen := len_owners w3 mm 3 hmap; clear hb3 hmm hmap))
  go_ret
  exact ⟨rfl, HX3.out.2.2⟩
end Go.Proofs.YthhgageghkbjjaaGreat.Rq
