/- Texts joined: Rq Rr Rs Rt. -/
import Derived.Laws.IdiomRangeMap
import Derived.WideLaws
import Derived.WideMake
import Derived.Test.YtjohhjdicbeojaaGreatDoorZas
namespace Go.Proofs.YtjohhjdicbeojaaGreatDoor.Rq
open Go.RowKit Go.Proofs.YtjohhjdicbeojaaGreatDoor.Ra Go.Proofs.YtjohhjdicbeojaaGreatDoor.Rj Go.Proofs.YtjohhjdicbeojaaGreatDoor.Rl Go.Proofs.YtjohhjdicbeojaaGreatDoor.Rn Go.Proofs.YtjohhjdicbeojaaGreatDoor.Ro Go.Proofs.YtjohhjdicbeojaaGreatDoor.Rp
set_option maxRecDepth 8000
theorem index_place (j : Int) (h : 0 ≤ j ∧ j < 8) (W : World) : (Instr.index 94 (.agg #[.slice none 0 0, .slice none 0 0, .slice none 0 0, .slice none 0 0, .slice none 0 0, .slice none 0 0, .slice none 0 0, .slice none 0 0]) (.int .i64 j)).run Tryz.prog W = .ok (.slice none 0 0) W := by
  have hcase : j = 0 ∨ j = 1 ∨ j = 2 ∨ j = 3 ∨ j = 4 ∨ j = 5 ∨ j = 6 ∨ j = 7 := by omega
  rcases hcase with rfl | rfl | rfl | rfl | rfl | rfl | rfl | rfl <;> rfl
theorem rangeP {w : World} {b : Nat} (h : w.heap[b]? = some (.cells emptyCells 96 (0, 0))) : w.rangeAt b 16 [.slice none 0 0, .slice none 0 0, .slice none 0 0, .slice none 0 0, .slice none 0 0, .slice none 0 0, .slice none 0 0, .slice none 0 0] := fun k v hk => by
  have hk8 : k < 8 := (List.getElem?_eq_some_iff.1 hk).1
  rw [blk_cell h]
  have hcase : k = 0 ∨ k = 1 ∨ k = 2 ∨ k = 3 ∨ k = 4 ∨ k = 5 ∨ k = 6 ∨ k = 7 := by omega
  rcases hcase with rfl | rfl | rfl | rfl | rfl | rfl | rfl | rfl <;> exact hk
theorem sizeP : (Tryz.prog.info? 94).map (·.size) = some 8 := by kernel_rfl
set_option maxHeartbeats 4000000 in
theorem all_c (w : World) : Calls Tryz.prog 111 #[.agg emptyCells] w fun e w' => ∃ m, e = .returned (.map (some m)) ∧ w.heap.size ≤ m ∧ w'.heap[m]? = some (.map #[] 0) ∧ Below w.heap.size w w' := by
  have hmk := fun (W : World) => run_makeMap_plain (P := Tryz.prog) (w := W) 212
  have hb0 := blk_old (blk_new w emptyCells 96) (.map #[] 0)
  have HR := Lib.hid (rangeP hb0)
  have hb1 : ((w.alloc (.cells emptyCells 96)).alloc (.map #[] 0)).heap[w.heap.size + 1]? = some (.map #[] 0) := by
    have := heap_alloc_new (w.alloc (.cells emptyCells 96)) (.map #[] 0)
    rwa [sz_alloc] at this
  have H0 : Hid (((w.alloc (.cells emptyCells 96)).alloc (.map #[] 0)).heap[w.heap.size + 1]? = some (.map #[] 0) ∧ Below w.heap.size w ((w.alloc (.cells emptyCells 96)).alloc (.map #[] 0))) := Lib.hid ⟨hb1, ((Below.refl _ _).alloc (Nat.le_refl _) _).alloc (by rw [sz_alloc]; omega) _⟩
  have HSP := Lib.hid sizeP
  clear hb0 hb1
  go_enter Tryz.func111, Tryz.ntmps111
  go_upto_region 2 with fail
  generalize ((w.alloc (.cells emptyCells 96)).alloc (.map #[] 0)) = w0 at *
  clear hmk
  go_wp2_with (refine wpList_load_mid rfl 94 (.tmp 9) rfl w.heap.size 16 rfl _ _ HR.out Tryz.underlying94 rfl HSP.out ?_)
  go_loopg [4, 5, 11] (9) (fun gg _ _ s11 wr => ∃ j : Int, 0 ≤ j ∧ j ≤ 8 ∧ 8 - j < gg ∧ s11 = .int .i64 j ∧ wr = w0)
  case atStart => exact ⟨0, by omega, by omega, by omega, rfl, rfl⟩
  case round =>
    obtain ⟨j, hj0, hj, hgg, rfl, rfl⟩ := hrel
    by_cases hil : j < 8
    · have hix := index_place j ⟨hj0, hil⟩
      go_wp2
      go_loopg [6, 7, 17] (1) (fun gg _ _ s17 wr2 => s17 = .int .i64 0 ∧ gg = 1 ∧ wr2 = wr)
      case atStart => exact ⟨rfl, rfl, rfl⟩
      case round =>
        obtain ⟨rfl, _, rfl⟩ := hrel
        clear hix
        go_wp2
        go_roundg (8 - j).toNat
        case measure => omega
        case rel => exact ⟨j + 1, by omega, by omega, by omega, by go_num, rfl⟩
    · go_wp2
      go_ret
      exact ⟨_, rfl, by omega, H0.out.1, H0.out.2⟩
/-- The blocks of a state in which nothing is, and of a geometry. -/
def Boxes (a p : Nat) (s b : Int) (w w' : World) : Prop := w'.heap[a]? = some (.cells emptyCells 96 (0, 0)) ∧ w'.heap[p]? = some (.cells #[.int .i64 s, .int .i64 b] 58 (0, 0)) ∧ Below w.heap.size w w'
theorem Boxes.later {a p : Nat} {s b : Int} {w w1 w2 : World} (h : Boxes a p s b w w1) (hb : Below w1.heap.size w1 w2) : Boxes a p s b w w2 :=
  ⟨blk_below h.1 hb (lt_of_block h.1), blk_below h.2.1 hb (lt_of_block h.2.1), h.2.2.trans (hb.mono h.2.2.size)⟩
theorem Boxes.plat {a p : Nat} {s b : Int} {w w1 : World} (h : Boxes a p s b w w1) : w1.cell? ⟨p, 0, none⟩ = some (.int .i64 s) ∧ w1.cell? ⟨p, 1, none⟩ = some (.int .i64 b) := ⟨blk_cell h.2.1 0, blk_cell h.2.1 1⟩
theorem Boxes.start (s b : Int) (w : World) : Boxes w.heap.size (w.heap.size + 1) s b w ((w.alloc (.cells emptyCells 96)).alloc (.cells #[.int .i64 s, .int .i64 b] 58)) := by
  have h1 := blk_new (w.alloc (.cells emptyCells 96)) #[.int .i64 s, .int .i64 b] 58
  rw [sz_alloc] at h1
  exact ⟨blk_old (blk_new w emptyCells 96) _, h1, ((Below.refl _ _).alloc (Nat.le_refl _) _).alloc (by rw [sz_alloc]; omega) _⟩
set_option maxHeartbeats 4000000 in
theorem within_c (s b : Int) (hm : MayP s b) (w : World) : Calls Tryz.prog 109 #[.agg emptyCells, .agg #[.int .i64 s, .int .i64 b]] w fun e w' => e = .returned (.int .i64 0) ∧ Below w.heap.size w w' := by
  have H0 := Lib.hid (Boxes.start s b w)
  have KP := Lib.hid (fun (W : World) => by have := check_c s b W; rw [if_pos hm] at this; exact this)
  have KS := Lib.hid (fun (W : World) => soundE W)
  have KN := Lib.hid (fun (f : Value) (W : World) => contains_nil f W)
  have HS := Lib.hid sizeE'
  have HSP := Lib.hid sizeP
  have HRP := Lib.hid (fun (W : World) (b : Nat) h => rangeP (w := W) (b := b) h)
  clear hm
  go_enter Tryz.func109, Tryz.ntmps109
  go_upto_region 1 with fail
  generalize ((w.alloc (.cells emptyCells 96)).alloc (.cells #[.int .i64 s, .int .i64 b] 58)) = w0 at *
  obtain ⟨p0, p1⟩ := H0.out.plat
  go_wp2_with (first
    | (refine wpList_load_row rfl 96 (.tmp 2) rfl w.heap.size rfl _ emptyCells _ _ HX1.out.1 Tryz.underlying96 rfl sizeE' ?_)
    | (go_at_call 67; (with_reducible refine (KP.out _).mono ?_); rintro e w1 ⟨rfl, hb1⟩; have HX1 := Lib.hid (H0.out.later hb1); clear hb1)
    | (go_at_call 63; (with_reducible refine (KS.out _).mono ?_); rintro e w2 ⟨rfl, hb2⟩; have HX2 := Lib.hid (HX1.out.later hb2); clear hb2)
    | (refine wpList_load_mid rfl 94 (.tmp 16) rfl w.heap.size 16 rfl _ _ (HRP.out _ _ HX2.out.1) Tryz.underlying94 rfl HSP.out ?_))
  go_loopg [7, 18] (9) (fun gg _ s18 wr => ∃ j : Int, 0 ≤ j ∧ j ≤ 8 ∧ 8 - j < gg ∧ s18 = .int .i64 j ∧ wr = w2)
  case atStart => exact ⟨0, by omega, by omega, by omega, rfl, rfl⟩
  case round =>
    obtain ⟨j, hj0, hj, hgg, rfl, rfl⟩ := hrel
    by_cases hil : j < 8
    · have hix := index_place j ⟨hj0, hil⟩
      go_wp2_with (go_at_call 114; (with_reducible refine (KN.out _ _).mono ?_); rintro e w3 ⟨rfl, rfl⟩)
      go_roundg (8 - j).toNat
      case measure => omega
      case rel => exact ⟨j + 1, by omega, by omega, by omega, by go_num, rfl⟩
    · go_wp2
      go_ret
      exact ⟨rfl, HX2.out.2.2⟩
theorem len_owners (W : World) (m : Nat) (ty : TypeId) (h : W.heap[m]? = some (.map #[] 0)) : (Builtin.len_ #[212] ty #[.map (some m)]).run Tryz.prog W = .ok (.int .i64 0) W := by
  have := run_len_map (P := Tryz.prog) (w := W) 212 ty m #[] 0 (by kernel_rfl) h
  rw [this]
  rfl
set_option maxHeartbeats 4000000 in
theorem fit_c (s b : Int) (hm : MayP s b) (w : World) : Calls Tryz.prog 61 #[.agg emptyCells, .agg #[.int .i64 s, .int .i64 b]] w fun e w' => e = .returned (.int .i64 0) ∧ Below w.heap.size w w' := by
  have H0 := Lib.hid (Boxes.start s b w)
  have KW := Lib.hid (fun (W : World) => within_c s b hm W)
  have KC := Lib.hid (fun (W : World) => capacity_c s b hm W)
  have KA := Lib.hid (fun (W : World) => all_c W)
  have hcap : 0 ≤ (s - 2 - 2) * b := Int.mul_nonneg (by have := hm.1; omega) (by have := hm.2.2.1; omega)
  have hcap' : ¬ (s - 2 - 2) * b < 0 := by omega
  generalize (s - 2 - 2) * b = cap at *
  clear hm
  go_enter Tryz.func61, Tryz.ntmps61
  go_upto_region 1 with fail
  generalize ((w.alloc (.cells emptyCells 96)).alloc (.cells #[.int .i64 s, .int .i64 b] 58)) = w0 at *
  obtain ⟨p0, p1⟩ := H0.out.plat
  go_wp2_with (first
    | (refine wpList_load_row rfl 96 (.tmp 2) rfl w.heap.size rfl _ emptyCells _ _ H0.out.1 Tryz.underlying96 rfl sizeE' ?_)
    | (refine wpList_load_row rfl 96 (.tmp 2) rfl w.heap.size rfl _ emptyCells _ _ HX2.out.1 Tryz.underlying96 rfl sizeE' ?_)
    | (go_at_call 109; (with_reducible refine (KW.out _).mono ?_); rintro e w1 ⟨rfl, hb1⟩; have HX1 := Lib.hid (H0.out.later hb1); obtain ⟨q0, q1⟩ := HX1.out.plat; clear hb1)
    | (go_at_call 110; (with_reducible refine (KC.out _).mono ?_); rintro e w2 ⟨rfl, hb2⟩; have HX2 := Lib.hid (HX1.out.later hb2); clear hb2)
    | (go_at_call 111; (with_reducible refine (KA.out _).mono ?_); rintro e w3 ⟨mm, rfl, hmm, hmap, hb3⟩; have HX3 := Lib.hid (HX2.out.later hb3); have hlen := len_owners w3 mm 3 hmap; clear hb3 hmm hmap))
  go_ret
  exact ⟨rfl, HX3.out.2.2⟩
end Go.Proofs.YtjohhjdicbeojaaGreatDoor.Rq
namespace Go.Proofs.YtjohhjdicbeojaaGreatDoor.Rr
open Go.RowKit Go.Proofs.YtjohhjdicbeojaaGreatDoor.Ra Go.Proofs.YtjohhjdicbeojaaGreatDoor.Rj Go.Proofs.YtjohhjdicbeojaaGreatDoor.Rl Go.Proofs.YtjohhjdicbeojaaGreatDoor.Rn Go.Proofs.YtjohhjdicbeojaaGreatDoor.Ro Go.Proofs.YtjohhjdicbeojaaGreatDoor.Rp Go.Proofs.YtjohhjdicbeojaaGreatDoor.Rq
set_option maxRecDepth 8000
theorem len64_0 (w : World) : Calls Tryz.prog 148 #[.int .u64 0] w fun e w' => e = .returned (.int .i64 0) ∧ w = w' := by
  go_enter Tryz.func148, Tryz.ntmps148
  go_wp2
  go_ret
  refine ⟨?_, rfl⟩
  kernel_rfl
theorem len_0 (w : World) : Calls Tryz.prog 248 #[.int .u64 0] w fun e w' => e = .returned (.int .i64 0) ∧ w = w' := by
  have K := Lib.hid (fun (W : World) => len64_0 W)
  go_enter Tryz.func248, Tryz.ntmps248
  go_wp2_with (go_at_call 148; (with_reducible refine (K.out _).mono ?_); rintro e w1 ⟨rfl, rfl⟩)
  go_ret
  exact ⟨rfl, rfl⟩
theorem insertion_0 (f : Value) (w : World) : Calls Tryz.prog 257 #[.slice none 0 0, .int .i64 0, .int .i64 0, f] w fun e w' => e = .returned (.tuple #[]) ∧ w = w' := by
  go_enter Tryz.func257, Tryz.ntmps257
  go_wp2
  go_loopg [8] (1) (fun gg s8 wr => s8 = .int .i64 1 ∧ gg = 1 ∧ wr = w)
  case atStart => exact ⟨rfl, rfl, rfl⟩
  case round =>
    obtain ⟨rfl, _, rfl⟩ := hrel
    go_wp2
    refine bodyPost_end (v := .tuple #[]) (by simp [results, Tryz.results257, go_sem]) rfl ?_
    exact ⟨rfl, rfl⟩
theorem clip_nil (w : World) : Calls Tryz.prog 219 #[.slice none 0 0] w fun e w' => e = .returned (.slice none 0 0) ∧ w = w' := by
  go_enter Tryz.func219, Tryz.ntmps219
  go_wp2
  go_ret
  exact ⟨rfl, rfl⟩
theorem compact_nil (w : World) : Calls Tryz.prog 220 #[.slice none 0 0] w fun e w' => e = .returned (.slice none 0 0) ∧ w = w' := by
  go_enter Tryz.func220, Tryz.ntmps220
  go_wp2
  go_ret
  exact ⟨rfl, rfl⟩
theorem pdq_0 (f : Value) (w : World) : Calls Tryz.prog 247 #[.slice none 0 0, .int .i64 0, .int .i64 0, .int .i64 0, f] w fun e w' => e = .returned (.tuple #[]) ∧ w = w' := by
  have K := Lib.hid (fun (W : World) => insertion_0 f W)
  go_enter Tryz.func247, Tryz.ntmps247
  go_wp2
  go_loopg [1, 2, 12] (1) (fun gg s1 s2 _ wr => s1 = .int .i64 0 ∧ s2 = .int .i64 0 ∧ gg = 1 ∧ wr = w)
  case atStart => exact ⟨rfl, rfl, rfl, rfl⟩
  case round =>
    obtain ⟨rfl, rfl, _, rfl⟩ := hrel
    go_wp2_with (go_at_call 257; (with_reducible refine (K.out _).mono ?_); rintro e w1 ⟨rfl, rfl⟩)
    refine bodyPost_ret (v := .tuple #[]) (by simp [results, Tryz.results247, go_sem]) rfl ?_
    exact ⟨rfl, rfl⟩
theorem sortFunc_0 (f : Value) (w : World) : Calls Tryz.prog 217 #[.slice none 0 0, f] w fun e w' => e = .returned (.tuple #[]) ∧ w = w' := by
  have KL := Lib.hid (fun (W : World) => len_0 W)
  have K := Lib.hid (fun (W : World) => pdq_0 f W)
  go_enter Tryz.func217, Tryz.ntmps217
  go_wp2_with (first
    | (go_at_call 248; (with_reducible refine (KL.out _).mono ?_); rintro e w1 ⟨rfl, rfl⟩)
    | (go_at_call 247; (with_reducible refine (K.out _).mono ?_); rintro e w1 ⟨rfl, rfl⟩))
  refine bodyPost_end (v := .tuple #[]) (by simp [results, Tryz.results217, go_sem]) rfl ?_
  exact ⟨rfl, rfl⟩
theorem sort_nil (w : World) : Calls Tryz.prog 171 #[.slice none 0 0] w fun e w' => e = .returned (.tuple #[.slice none 0 0, .int .i64 0]) ∧ w = w' := by
  have KC := Lib.hid (fun (W : World) => sclone_nil W)
  have KS := Lib.hid (fun (f : Value) (W : World) => sortFunc_0 f W)
  have KO := Lib.hid (fun (W : World) => compact_nil W)
  have KI := Lib.hid (fun (W : World) => clip_nil W)
  go_enter Tryz.func171, Tryz.ntmps171
  go_wp2_with (go_at_call 167; (with_reducible refine (KC.out _).mono ?_); rintro e w1 ⟨rfl, rfl⟩)
  go_loopg [5, 6, 14] (1) (fun gg _ _ s14 wr => s14 = .int .i64 0 ∧ gg = 1 ∧ wr = w)
  case atStart => exact ⟨rfl, rfl, rfl⟩
  case round =>
    obtain ⟨rfl, _, rfl⟩ := hrel
    go_wp2_with (first
      | (go_at_call 217; (with_reducible refine (KS.out _ _).mono ?_); rintro e w2 ⟨rfl, rfl⟩)
      | (go_at_call 220; (with_reducible refine (KO.out _).mono ?_); rintro e w2 ⟨rfl, rfl⟩)
      | (go_at_call 219; (with_reducible refine (KI.out _).mono ?_); rintro e w2 ⟨rfl, rfl⟩))
    go_ret2
    exact ⟨rfl, rfl⟩
end Go.Proofs.YtjohhjdicbeojaaGreatDoor.Rr
namespace Go.Proofs.YtjohhjdicbeojaaGreatDoor.Rs
open Go.RowKit Go.Proofs.YtjohhjdicbeojaaGreatDoor.Ra Go.Proofs.YtjohhjdicbeojaaGreatDoor.Rj Go.Proofs.YtjohhjdicbeojaaGreatDoor.Rl Go.Proofs.YtjohhjdicbeojaaGreatDoor.Rn Go.Proofs.YtjohhjdicbeojaaGreatDoor.Ro Go.Proofs.YtjohhjdicbeojaaGreatDoor.Rp Go.Proofs.YtjohhjdicbeojaaGreatDoor.Rq Go.Proofs.YtjohhjdicbeojaaGreatDoor.Rr
set_option maxRecDepth 8000
theorem next_none (W : World) (m : Nat) (ty : TypeId) (h : W.heap[m]? = some (.map #[] 0)) : (Instr.next (.pointer (some ⟨W.heap.size, 0, none⟩)) false ty).run Tryz.prog (W.alloc (.mapIter (some m) 0 #[] 0)) = .ok (.tuple #[.bool false]) (W.alloc (.mapIter (some m) 0 #[] 0)) := by
  rcases run_next_map (P := Tryz.prog) W ty m 0 0 #[] #[] 0 h (fun x hx => by cases hx) (Nat.le_refl _) with ⟨_, h⟩ | ⟨e, he, _⟩
  · exact h
  · simp [leftOf] at he
set_option maxHeartbeats 4000000 in
theorem owners_c (w : World) : Calls Tryz.prog 112 #[.agg emptyCells] w fun e w' => e = .returned (.tuple #[.slice none 0 0, .slice none 0 0, .int .i64 0]) ∧ Below w.heap.size w w' := by
  have hb0 := blk_new w emptyCells 96
  have H0 : Hid ((w.alloc (.cells emptyCells 96)).heap[w.heap.size]? = some (.cells emptyCells 96 (0, 0)) ∧ Below w.heap.size w (w.alloc (.cells emptyCells 96))) := Lib.hid ⟨hb0, (Below.refl _ _).alloc (Nat.le_refl _) _⟩
  have KS := Lib.hid (fun (W : World) => soundE W)
  have KA := Lib.hid (fun (W : World) => all_c W)
  have KT := Lib.hid (fun (W : World) => sort_nil W)
  clear hb0
  go_enter Tryz.func112, Tryz.ntmps112
  go_upto_region 1 with fail
  generalize (w.alloc (.cells emptyCells 96)) = w0 at *
  go_wp2_with (first
    | (refine wpList_load_row rfl 96 (.tmp 1) rfl w.heap.size rfl _ emptyCells _ _ H0.out.1 Tryz.underlying96 rfl sizeE' ?_)
    | (refine wpList_load_row rfl 96 (.tmp 1) rfl w.heap.size rfl _ emptyCells _ _ HX1.out.1 Tryz.underlying96 rfl sizeE' ?_)
    | (go_at_call 63; (with_reducible refine (KS.out _).mono ?_); rintro e w1 ⟨rfl, hb1⟩; have HX1 : Hid (w1.heap[w.heap.size]? = some (.cells emptyCells 96 (0, 0)) ∧ Below w.heap.size w w1) := Lib.hid ⟨blk_below H0.out.1 hb1 (lt_of_block H0.out.1), H0.out.2.trans (hb1.mono H0.out.2.size)⟩; clear hb1)
    | (go_at_call 111; (with_reducible refine (KA.out _).mono ?_); rintro e w3 ⟨mm, rfl, hmm, hmap, hb3⟩; have HX3 : Hid (Below w.heap.size w w3) := Lib.hid (HX1.out.2.trans (hb3.mono HX1.out.2.size)); have hrange := run_range_map (P := Tryz.prog) w3 212 151 281 mm #[] 0 Tryz.underlying212 hmap; have hnext := fun ty => next_none w3 mm ty hmap; clear hb3 hmm hmap))
  clear hrange
  have HFIN : Hid (Below w.heap.size w (w3.alloc (.mapIter (some mm) 0 #[] 0))) := Lib.hid (HX3.out.alloc HX3.out.size _)
  go_loopg [6, 7] (1) (fun gg s6 _ wr => s6 = .slice none 0 0 ∧ gg = 1 ∧ wr = w3.alloc (.mapIter (some mm) 0 #[] 0))
  case atStart => exact ⟨rfl, rfl, rfl⟩
  case round =>
    obtain ⟨rfl, _, rfl⟩ := hrel
    go_wp2_with (go_at_call 171; (with_reducible refine (KT.out _).mono ?_); rintro e w4 ⟨rfl, rfl⟩)
    clear hnext
    generalize w3.alloc (.mapIter (some mm) 0 #[] 0) = wq at *
    go_loopg [8, 10, 33] (1) (fun gg s8 _ s33 wr => s8 = .slice none 0 0 ∧ s33 = .int .i64 0 ∧ gg = 1 ∧ wr = wq)
    case atStart => exact ⟨rfl, rfl, rfl, rfl⟩
    case round =>
      obtain ⟨rfl, rfl, _, rfl⟩ := hrel
      go_wp2
      refine bodyPost_ret (v := .tuple #[.slice none 0 0, .slice none 0 0, .int .i64 0]) (by simp [results, Tryz.results112, go_sem]) rfl ⟨rfl, HFIN.out⟩
end Go.Proofs.YtjohhjdicbeojaaGreatDoor.Rs
namespace Go.Proofs.YtjohhjdicbeojaaGreatDoor.Rt
open Go.RowKit Go.Proofs.YtjohhjdicbeojaaGreatDoor.Ra Go.Proofs.YtjohhjdicbeojaaGreatDoor.Rj Go.Proofs.YtjohhjdicbeojaaGreatDoor.Rl Go.Proofs.YtjohhjdicbeojaaGreatDoor.Rn Go.Proofs.YtjohhjdicbeojaaGreatDoor.Ro Go.Proofs.YtjohhjdicbeojaaGreatDoor.Rp Go.Proofs.YtjohhjdicbeojaaGreatDoor.Rq Go.Proofs.YtjohhjdicbeojaaGreatDoor.Rr Go.Proofs.YtjohhjdicbeojaaGreatDoor.Rs
set_option maxRecDepth 8000
theorem info_int : (Tryz.prog.info? 3).map (fun i => (i.zero, i.size, i.bytes)) = some (some (.int .i64 0), 1, 8) := by kernel_rfl
theorem make_ints (n : Nat) (h1 : n ≤ 24) (u : World) : (Instr.makeSlice 25 (.int .i64 (n : Int)) (.int .i64 (n : Int))).run Tryz.prog u = .ok (.slice (some ⟨u.heap.size, 0, none⟩) n n) (u.alloc (.cells (intVals (List.replicate n 0)).toArray 3)) := by
  obtain ⟨i0, hi, hz0, hz1, hz2⟩ := info_parts info_int
  have := run_makeSlice (P := Tryz.prog) u 25 3 i0 _ Tryz.underlying25 hi hz0 .i64 .i64 (n : Int) (n : Int) (by omega) (Int.le_refl _) (by rw [hz1, Int.toNat_natCast]; omega) (by rw [hz2]; omega) (by omega)
  rw [this, Int.toNat_natCast, hz1]
  show _ = Result.ok _ (u.alloc (.cells _ _))
  refine congrArg (fun c => Result.ok _ (u.alloc (Obj.cells c 3))) ?_
  unfold intVals
  rw [List.map_replicate]
  apply Array.ext
  · simp [madeCells]
  · intro i h1 h2
    have e : (Value.int IntKind.i64 0).cells = #[.int .i64 0] := rfl
    simp [madeCells, e, Nat.mod_one]
set_option maxHeartbeats 4000000 in
theorem counts_c (s : Nat) (b : Int) (hm : MayP s b) (w : World) : Calls Tryz.prog 62 #[.agg emptyCells, .agg #[.int .i64 (s : Int), .int .i64 b]] w fun e w' => ∃ g, e = .returned (.tuple #[.slice (some ⟨g, 0, none⟩) s s, .int .i64 0]) ∧ w'.heap[g]? = some (.cells (intVals (List.replicate s 0)).toArray 3 (0, 0)) ∧ Below w.heap.size w w' := by
  have H0 := Lib.hid (Boxes.start (s : Int) b w)
  have KW := Lib.hid (fun (W : World) => within_c (s : Int) b hm W)
  have KO := Lib.hid (fun (W : World) => owners_c W)
  have hmk := make_ints s (by have := hm.2.1; omega)
  have hs24 : s ≤ 24 := by have := hm.2.1; omega
  clear hm
  go_enter Tryz.func62, Tryz.ntmps62
  go_upto_region 1 with fail
  generalize ((w.alloc (.cells emptyCells 96)).alloc (.cells #[.int .i64 (s : Int), .int .i64 b] 58)) = w0 at *
  obtain ⟨p0, p1⟩ := H0.out.plat
  go_wp2_with (first
    | (refine wpList_load_row rfl 96 (.tmp 2) rfl w.heap.size rfl _ emptyCells _ _ H0.out.1 Tryz.underlying96 rfl sizeE' ?_)
    | (go_at_call 109; (with_reducible refine (KW.out _).mono ?_); rintro e w1 ⟨rfl, hb1⟩; have HX1 := Lib.hid (H0.out.later hb1); obtain ⟨q0, q1⟩ := HX1.out.plat; have HX2 := Lib.hid (HX1.out.later ((Below.refl _ _).alloc (Nat.le_refl _) (.cells (intVals (List.replicate s 0)).toArray 3))); have HGB := Lib.hid (blk_new w1 (intVals (List.replicate s 0)).toArray 3); clear hb1)
    | (refine wpList_load_row rfl 96 (.tmp 2) rfl w.heap.size rfl _ emptyCells _ _ HX2.out.1 Tryz.underlying96 rfl sizeE' ?_)
    | (go_at_call 112; (with_reducible refine (KO.out _).mono ?_); rintro e w3 ⟨rfl, hb3⟩; have HX3 := Lib.hid (HX2.out.later hb3); have HG3 := Lib.hid (blk_below HGB.out hb3 (lt_of_block HGB.out)); clear hb3))
  clear hmk
  go_loopg [12, 30] (1) (fun gg _ s30 wr => s30 = .int .i64 0 ∧ gg = 1 ∧ wr = w3)
  case atStart => exact ⟨rfl, rfl, rfl⟩
  case round =>
    obtain ⟨rfl, _, rfl⟩ := hrel
    go_wp2
    refine bodyPost_ret (v := .tuple #[.slice (some ⟨w1.heap.size, 0, none⟩) s s, .int .i64 0]) (by simp [results, Tryz.results62, go_sem]) rfl ⟨_, rfl, HG3.out, HX3.out.2.2⟩
theorem below_grown {B e sz n : Nat} {w w' : World} {v : Value} {xs : List Value} (h : w.ownsRow B e sz v n xs) (hB : B ≤ w.heap.size) (hg : w.grownBy w' v.ownBlock) : Below B w w' := by
  refine ⟨hg.os, hg.tape, hg.output, hg.size, fun k hk => hg.block k (by omega) (fun e => ?_)⟩
  rcases h.2 with ⟨hv, _⟩ | ⟨g, cap, cur, hv, hgB, _⟩
  · rw [hv] at e; cases e
  · rw [hv] at e
    obtain rfl := Option.some.inj e
    omega
set_option maxHeartbeats 4000000 in
theorem free_c (s : Nat) (b : Int) (hm : MayP s b) (w : World) : Calls Tryz.prog 35 #[.agg emptyCells, .agg #[.int .i64 (s : Int), .int .i64 b], .slice none 0 0] w fun e w' => ∃ p c, e = .returned (.tuple #[.slice p s c, .int .i64 0]) ∧ Below w.heap.size w w' := by
  have H0 := Lib.hid (Boxes.start (s : Int) b w)
  have KC := Lib.hid (fun (W : World) => counts_c s b hm W)
  have KN := Lib.hid (fun (x : Int) (W : World) => contains_none x W)
  have hs24 : s ≤ 24 := by have := hm.2.1; omega
  obtain ⟨i0, hi, hz0, hz1, hz2⟩ := info_parts info_int
  have HI := Lib.hid hi
  have HZ0 := Lib.hid hz0
  have HZ1 := Lib.hid hz1
  have HZ2 := Lib.hid hz2
  clear hm hi hz0 hz1 hz2
  go_enter Tryz.func35, Tryz.ntmps35
  go_upto_region 1 with fail
  generalize ((w.alloc (.cells emptyCells 96)).alloc (.cells #[.int .i64 (s : Int), .int .i64 b] 58)) = w0 at *
  obtain ⟨p0, p1⟩ := H0.out.plat
  go_wp2_with (first
    | (refine wpList_load_row rfl 96 (.tmp 3) rfl w.heap.size rfl _ emptyCells _ _ H0.out.1 Tryz.underlying96 rfl sizeE' ?_)
    | (go_at_call 62; (with_reducible refine (KC.out _).mono ?_); rintro e w1 ⟨g, rfl, hg1, hb1⟩; have HX1 := Lib.hid (H0.out.later hb1); have HG1 := Lib.hid hg1; clear hb1 hg1))
  go_loopg [10, 11, 12, 24] (s + 1) (fun gg s10 _ _ s24 wr => ∃ (j : Nat) (xs : List Value), j ≤ s ∧ s - j < gg ∧ s24 = .int .i64 (j : Int) ∧ Hid (wr.ownsRow w1.heap.size 3 1 s10 j xs ∧ Below w1.heap.size w1 wr))
  case atStart => exact ⟨0, [], by omega, by omega, rfl, Lib.hid ⟨World.ownsRow_nil _ _ _ _, Below.refl _ _⟩⟩
  case round =>
    obtain ⟨j, xs, hj, hgg, rfl, HR⟩ := hrel
    by_cases hlt : j < s
    · have hil : (j : Int) < (s : Int) := by omega
      have cj : wr.cell? ⟨g, j, none⟩ = some (.int .i64 0) := by
        rw [blk_cell (blk_below HG1.out HR.out.2 (lt_of_block HG1.out)), ← Array.getElem?_toList, List.toList_toArray]
        unfold intVals
        rw [List.getElem?_map, List.getElem?_replicate, if_pos hlt]
        rfl
      have OWR := Lib.hid HR.out.1
      have hbr := HR.out.2.size
      have h63 : Hid (j + 1 ≤ maxLen) := Lib.hid (by unfold maxLen; omega)
      have hbs : Hid ((j + 1) * 8 ≤ 140737488355328) := Lib.hid (by omega)
      go_wp2_with (first
        | (go_at_call 39; (with_reducible refine (KN.out _ _).mono ?_); rintro e w2 ⟨rfl, rfl⟩)
        | (at_builtin; go_loud (refine wpList_append_lies _ rfl _ _ 25 rfl w1.heap.size 3 i0 (.int .i64 0) 1 8 Tryz.underlying25 HI.out HZ0.out HZ1.out HZ2.out rfl (by decide) _ j xs rfl (OWR.out.alloc _) ⟨wr.heap.size, 0, none⟩ 1 1 [.int .i64 (j : Int)] rfl rfl (cell_one_new _ _ _) (by simp [Value.oneCell']) (by decide) h63.out hbs.out (by rw [sz_alloc]; exact Nat.le_trans hbr (Nat.le_succ _)) _ rfl ?_)))
      intro g3 cap3 w6 hown hgrow hat _
      have HN : Hid (w6.ownsRow w1.heap.size 3 1 (.slice (some ⟨g3, 0, none⟩) (j + 1) cap3) (j + 1) (xs ++ [.int .i64 (j : Int)]) ∧ Below w1.heap.size w1 w6) := Lib.hid ⟨hown, (HR.out.2.trans (((Below.refl _ _).alloc (Nat.le_refl _) _).mono hbr)).trans (below_grown (OWR.out.alloc _) (by rw [sz_alloc]; omega) hgrow)⟩
      clear hown hgrow hat cj
      go_wp2
      go_roundg (s - (j + 1) + 1)
      case measure => omega
      case rel => exact ⟨j + 1, _, by omega, by omega, by go_num, HN⟩
    · have hil : ¬ (j : Int) < (s : Int) := by omega
      obtain rfl : j = s := by omega
      obtain ⟨p, c, hv⟩ : ∃ p c, u10 = .slice p j c := by
        rcases HR.out.1.2 with ⟨hv, h0⟩ | ⟨g, cap, cur, hv, _⟩
        · exact ⟨none, 0, by rw [hv, h0]⟩
        · exact ⟨_, _, hv⟩
      subst hv
      go_wp2
      refine bodyPost_ret (v := .tuple #[.slice p j c, .int .i64 0]) (by simp [results, Tryz.results35, go_sem]) rfl ?_
      exact ⟨⟨p, c, rfl⟩, HX1.out.2.2.trans (HR.out.2.mono HX1.out.2.2.size)⟩
end Go.Proofs.YtjohhjdicbeojaaGreatDoor.Rt
