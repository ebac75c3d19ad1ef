/- Texts joined: Ro Rp. -/
import Derived.Laws.ResultCell
import Derived.Test.YtjohhjdicbeojaaGreatDoorZar
namespace Go.Proofs.YtjohhjdicbeojaaGreatDoor.Ro
open Go.RowKit Go.Proofs.YtjohhjdicbeojaaGreatDoor.Ra Go.Proofs.YtjohhjdicbeojaaGreatDoor.Rj Go.Proofs.YtjohhjdicbeojaaGreatDoor.Rl Go.Proofs.YtjohhjdicbeojaaGreatDoor.Rn
set_option maxRecDepth 8000
theorem sclone_nil (w : World) : Calls Tryz.prog 167 #[.slice none 0 0] w fun e w' => e = .returned (.slice none 0 0) ∧ w = w' := by
  have hnil := fun (W : World) => Lib.run_eql_slice_nil (P := Tryz.prog) W 93 151 none 0 0 0 0 Tryz.underlying93
  go_enter Tryz.func167, Tryz.ntmps167
  go_wp2
  go_ret
  exact ⟨rfl, rfl⟩
theorem rangeE {w : World} {b : Nat} (h : w.heap[b]? = some (.cells #[.int .i64 0, .int .i64 0, .int .i64 0, .int .i64 0, .int .i64 0, .int .i64 0, .int .i64 0, .int .i64 0, .int .i64 0, .int .i64 0, .int .i64 0, .int .i64 0, .int .i64 0, .int .i64 0, .int .i64 0, .int .i64 0, .slice none 0 0, .slice none 0 0, .slice none 0 0, .slice none 0 0, .slice none 0 0, .slice none 0 0, .slice none 0 0, .slice none 0 0] 96 (0, 0))) : w.rangeAt b 0 [.int .i64 0, .int .i64 0, .int .i64 0, .int .i64 0, .int .i64 0, .int .i64 0, .int .i64 0, .int .i64 0, .int .i64 0, .int .i64 0, .int .i64 0, .int .i64 0, .int .i64 0, .int .i64 0, .int .i64 0, .int .i64 0, .slice none 0 0, .slice none 0 0, .slice none 0 0, .slice none 0 0, .slice none 0 0, .slice none 0 0, .slice none 0 0, .slice none 0 0] := fun k v hk => by
  rw [Nat.zero_add, blk_cell h, ← Array.getElem?_toList]
  exact hk
theorem thereE {w : World} {b : Nat} (h : w.heap[b]? = some (.cells #[.int .i64 0, .int .i64 0, .int .i64 0, .int .i64 0, .int .i64 0, .int .i64 0, .int .i64 0, .int .i64 0, .int .i64 0, .int .i64 0, .int .i64 0, .int .i64 0, .int .i64 0, .int .i64 0, .int .i64 0, .int .i64 0, .slice none 0 0, .slice none 0 0, .slice none 0 0, .slice none 0 0, .slice none 0 0, .slice none 0 0, .slice none 0 0, .slice none 0 0] 96 (0, 0))) : w.there b 0 24 := fun k hk => by
  refine ⟨?_, blk_free h _⟩
  rw [blk_cell h, Array.getElem?_eq_getElem (by show 0 + k < 24; omega)]
  rfl
theorem sizeE : (Tryz.prog.info? 96).map (·.size) = some 24 := by kernel_rfl
theorem setE {w : World} {b : Nat} (h : w.heap[b]? = some (.cells #[.int .i64 0, .int .i64 0, .int .i64 0, .int .i64 0, .int .i64 0, .int .i64 0, .int .i64 0, .int .i64 0, .int .i64 0, .int .i64 0, .int .i64 0, .int .i64 0, .int .i64 0, .int .i64 0, .int .i64 0, .int .i64 0, .slice none 0 0, .slice none 0 0, .slice none 0 0, .slice none 0 0, .slice none 0 0, .slice none 0 0, .slice none 0 0, .slice none 0 0] 96 (0, 0))) : (w.setCells b 0 [.int .i64 0, .int .i64 0, .int .i64 0, .int .i64 0, .int .i64 0, .int .i64 0, .int .i64 0, .int .i64 0, .int .i64 0, .int .i64 0, .int .i64 0, .int .i64 0, .int .i64 0, .int .i64 0, .int .i64 0, .int .i64 0, .slice none 0 0, .slice none 0 0, .slice none 0 0, .slice none 0 0, .slice none 0 0, .slice none 0 0, .slice none 0 0, .slice none 0 0]).heap[b]? = some (.cells #[.int .i64 0, .int .i64 0, .int .i64 0, .int .i64 0, .int .i64 0, .int .i64 0, .int .i64 0, .int .i64 0, .int .i64 0, .int .i64 0, .int .i64 0, .int .i64 0, .int .i64 0, .int .i64 0, .int .i64 0, .int .i64 0, .slice none 0 0, .slice none 0 0, .slice none 0 0, .slice none 0 0, .slice none 0 0, .slice none 0 0, .slice none 0 0, .slice none 0 0] 96 (0, 0)) := by
  rw [Ri.setCells_blk [.int .i64 0, .int .i64 0, .int .i64 0, .int .i64 0, .int .i64 0, .int .i64 0, .int .i64 0, .int .i64 0, .int .i64 0, .int .i64 0, .int .i64 0, .int .i64 0, .int .i64 0, .int .i64 0, .int .i64 0, .int .i64 0, .slice none 0 0, .slice none 0 0, .slice none 0 0, .slice none 0 0, .slice none 0 0, .slice none 0 0, .slice none 0 0, .slice none 0 0] 0 w _ h (by decide)]
  rfl
theorem oneE : ∀ v ∈ ([.int .i64 0, .int .i64 0, .int .i64 0, .int .i64 0, .int .i64 0, .int .i64 0, .int .i64 0, .int .i64 0, .int .i64 0, .int .i64 0, .int .i64 0, .int .i64 0, .int .i64 0, .int .i64 0, .int .i64 0, .int .i64 0, .slice none 0 0, .slice none 0 0, .slice none 0 0, .slice none 0 0, .slice none 0 0, .slice none 0 0, .slice none 0 0, .slice none 0 0] : List Value), v.oneCell' = true := by
  intro v hv
  simp only [List.mem_cons, List.not_mem_nil, or_false] at hv
  rcases hv with rfl | rfl | rfl | rfl | rfl | rfl | rfl | rfl | rfl | rfl | rfl | rfl | rfl | rfl | rfl | rfl | rfl | rfl | rfl | rfl | rfl | rfl | rfl | rfl <;> rfl
theorem belowSet {w w1 : World} {b B : Nat} (h : Below B w w1) (hB : B ≤ w.heap.size) (hb : B ≤ b) (l : List Value) : Below B w (w1.setCells b 0 l) := by
  have hg := Ri.grownBy_setCells b l 0 w1
  exact h.trans ⟨hg.os, hg.tape, hg.output, hg.size, fun k hk => hg.block k (by have := h.size; omega) (fun e => by have := Option.some.inj e; omega)⟩
set_option maxHeartbeats 4000000 in
theorem clone_c (w : World) : Calls Tryz.prog 107 #[.agg #[.int .i64 0, .int .i64 0, .int .i64 0, .int .i64 0, .int .i64 0, .int .i64 0, .int .i64 0, .int .i64 0, .int .i64 0, .int .i64 0, .int .i64 0, .int .i64 0, .int .i64 0, .int .i64 0, .int .i64 0, .int .i64 0, .slice none 0 0, .slice none 0 0, .slice none 0 0, .slice none 0 0, .slice none 0 0, .slice none 0 0, .slice none 0 0, .slice none 0 0]] w fun e w' => e = .returned (.agg #[.int .i64 0, .int .i64 0, .int .i64 0, .int .i64 0, .int .i64 0, .int .i64 0, .int .i64 0, .int .i64 0, .int .i64 0, .int .i64 0, .int .i64 0, .int .i64 0, .int .i64 0, .int .i64 0, .int .i64 0, .int .i64 0, .slice none 0 0, .slice none 0 0, .slice none 0 0, .slice none 0 0, .slice none 0 0, .slice none 0 0, .slice none 0 0, .slice none 0 0]) ∧ Below w.heap.size w w' := by
  have KC := Lib.hid (fun (W : World) => sclone_nil W)
  have hb0 := blk_old (blk_new w #[.int .i64 0, .int .i64 0, .int .i64 0, .int .i64 0, .int .i64 0, .int .i64 0, .int .i64 0, .int .i64 0, .int .i64 0, .int .i64 0, .int .i64 0, .int .i64 0, .int .i64 0, .int .i64 0, .int .i64 0, .int .i64 0, .slice none 0 0, .slice none 0 0, .slice none 0 0, .slice none 0 0, .slice none 0 0, .slice none 0 0, .slice none 0 0, .slice none 0 0] 96) (.cells #[.int .i64 0, .int .i64 0, .int .i64 0, .int .i64 0, .int .i64 0, .int .i64 0, .int .i64 0, .int .i64 0, .int .i64 0, .int .i64 0, .int .i64 0, .int .i64 0, .int .i64 0, .int .i64 0, .int .i64 0, .int .i64 0, .slice none 0 0, .slice none 0 0, .slice none 0 0, .slice none 0 0, .slice none 0 0, .slice none 0 0, .slice none 0 0, .slice none 0 0] 96)
  have hb1 := blk_new (w.alloc (.cells #[.int .i64 0, .int .i64 0, .int .i64 0, .int .i64 0, .int .i64 0, .int .i64 0, .int .i64 0, .int .i64 0, .int .i64 0, .int .i64 0, .int .i64 0, .int .i64 0, .int .i64 0, .int .i64 0, .int .i64 0, .int .i64 0, .slice none 0 0, .slice none 0 0, .slice none 0 0, .slice none 0 0, .slice none 0 0, .slice none 0 0, .slice none 0 0, .slice none 0 0] 96)) #[.int .i64 0, .int .i64 0, .int .i64 0, .int .i64 0, .int .i64 0, .int .i64 0, .int .i64 0, .int .i64 0, .int .i64 0, .int .i64 0, .int .i64 0, .int .i64 0, .int .i64 0, .int .i64 0, .int .i64 0, .int .i64 0, .slice none 0 0, .slice none 0 0, .slice none 0 0, .slice none 0 0, .slice none 0 0, .slice none 0 0, .slice none 0 0, .slice none 0 0] 96
  rw [sz_alloc] at hb1
  have H0 : Hid (((w.alloc (.cells #[.int .i64 0, .int .i64 0, .int .i64 0, .int .i64 0, .int .i64 0, .int .i64 0, .int .i64 0, .int .i64 0, .int .i64 0, .int .i64 0, .int .i64 0, .int .i64 0, .int .i64 0, .int .i64 0, .int .i64 0, .int .i64 0, .slice none 0 0, .slice none 0 0, .slice none 0 0, .slice none 0 0, .slice none 0 0, .slice none 0 0, .slice none 0 0, .slice none 0 0] 96)).alloc (.cells #[.int .i64 0, .int .i64 0, .int .i64 0, .int .i64 0, .int .i64 0, .int .i64 0, .int .i64 0, .int .i64 0, .int .i64 0, .int .i64 0, .int .i64 0, .int .i64 0, .int .i64 0, .int .i64 0, .int .i64 0, .int .i64 0, .slice none 0 0, .slice none 0 0, .slice none 0 0, .slice none 0 0, .slice none 0 0, .slice none 0 0, .slice none 0 0, .slice none 0 0] 96)).heap[w.heap.size]? = some (.cells #[.int .i64 0, .int .i64 0, .int .i64 0, .int .i64 0, .int .i64 0, .int .i64 0, .int .i64 0, .int .i64 0, .int .i64 0, .int .i64 0, .int .i64 0, .int .i64 0, .int .i64 0, .int .i64 0, .int .i64 0, .int .i64 0, .slice none 0 0, .slice none 0 0, .slice none 0 0, .slice none 0 0, .slice none 0 0, .slice none 0 0, .slice none 0 0, .slice none 0 0] 96 (0, 0)) ∧ ((w.alloc (.cells #[.int .i64 0, .int .i64 0, .int .i64 0, .int .i64 0, .int .i64 0, .int .i64 0, .int .i64 0, .int .i64 0, .int .i64 0, .int .i64 0, .int .i64 0, .int .i64 0, .int .i64 0, .int .i64 0, .int .i64 0, .int .i64 0, .slice none 0 0, .slice none 0 0, .slice none 0 0, .slice none 0 0, .slice none 0 0, .slice none 0 0, .slice none 0 0, .slice none 0 0] 96)).alloc (.cells #[.int .i64 0, .int .i64 0, .int .i64 0, .int .i64 0, .int .i64 0, .int .i64 0, .int .i64 0, .int .i64 0, .int .i64 0, .int .i64 0, .int .i64 0, .int .i64 0, .int .i64 0, .int .i64 0, .int .i64 0, .int .i64 0, .slice none 0 0, .slice none 0 0, .slice none 0 0, .slice none 0 0, .slice none 0 0, .slice none 0 0, .slice none 0 0, .slice none 0 0] 96)).heap[w.heap.size + 1]? = some (.cells #[.int .i64 0, .int .i64 0, .int .i64 0, .int .i64 0, .int .i64 0, .int .i64 0, .int .i64 0, .int .i64 0, .int .i64 0, .int .i64 0, .int .i64 0, .int .i64 0, .int .i64 0, .int .i64 0, .int .i64 0, .int .i64 0, .slice none 0 0, .slice none 0 0, .slice none 0 0, .slice none 0 0, .slice none 0 0, .slice none 0 0, .slice none 0 0, .slice none 0 0] 96 (0, 0)) ∧ Below w.heap.size w ((w.alloc (.cells #[.int .i64 0, .int .i64 0, .int .i64 0, .int .i64 0, .int .i64 0, .int .i64 0, .int .i64 0, .int .i64 0, .int .i64 0, .int .i64 0, .int .i64 0, .int .i64 0, .int .i64 0, .int .i64 0, .int .i64 0, .int .i64 0, .slice none 0 0, .slice none 0 0, .slice none 0 0, .slice none 0 0, .slice none 0 0, .slice none 0 0, .slice none 0 0, .slice none 0 0] 96)).alloc (.cells #[.int .i64 0, .int .i64 0, .int .i64 0, .int .i64 0, .int .i64 0, .int .i64 0, .int .i64 0, .int .i64 0, .int .i64 0, .int .i64 0, .int .i64 0, .int .i64 0, .int .i64 0, .int .i64 0, .int .i64 0, .int .i64 0, .slice none 0 0, .slice none 0 0, .slice none 0 0, .slice none 0 0, .slice none 0 0, .slice none 0 0, .slice none 0 0, .slice none 0 0] 96))) := Lib.hid ⟨hb0, hb1, ((Below.refl _ _).alloc (Nat.le_refl _) _).alloc (by rw [sz_alloc]; omega) _⟩
  clear hb0 hb1
  go_enter Tryz.func107, Tryz.ntmps107
  go_wp2
  generalize ((w.alloc (.cells #[.int .i64 0, .int .i64 0, .int .i64 0, .int .i64 0, .int .i64 0, .int .i64 0, .int .i64 0, .int .i64 0, .int .i64 0, .int .i64 0, .int .i64 0, .int .i64 0, .int .i64 0, .int .i64 0, .int .i64 0, .int .i64 0, .slice none 0 0, .slice none 0 0, .slice none 0 0, .slice none 0 0, .slice none 0 0, .slice none 0 0, .slice none 0 0, .slice none 0 0] 96)).alloc (.cells #[.int .i64 0, .int .i64 0, .int .i64 0, .int .i64 0, .int .i64 0, .int .i64 0, .int .i64 0, .int .i64 0, .int .i64 0, .int .i64 0, .int .i64 0, .int .i64 0, .int .i64 0, .int .i64 0, .int .i64 0, .int .i64 0, .slice none 0 0, .slice none 0 0, .slice none 0 0, .slice none 0 0, .slice none 0 0, .slice none 0 0, .slice none 0 0, .slice none 0 0] 96)) = w0 at *
  go_loopg [3, 4] (9) (fun gg _ s4 wr => ∃ j : Int, 0 ≤ j ∧ j ≤ 8 ∧ 8 - j < gg ∧ s4 = .int .i64 j ∧ Hid (wr.heap[w.heap.size]? = some (.cells #[.int .i64 0, .int .i64 0, .int .i64 0, .int .i64 0, .int .i64 0, .int .i64 0, .int .i64 0, .int .i64 0, .int .i64 0, .int .i64 0, .int .i64 0, .int .i64 0, .int .i64 0, .int .i64 0, .int .i64 0, .int .i64 0, .slice none 0 0, .slice none 0 0, .slice none 0 0, .slice none 0 0, .slice none 0 0, .slice none 0 0, .slice none 0 0, .slice none 0 0] 96 (0, 0)) ∧ wr.heap[w.heap.size + 1]? = some (.cells #[.int .i64 0, .int .i64 0, .int .i64 0, .int .i64 0, .int .i64 0, .int .i64 0, .int .i64 0, .int .i64 0, .int .i64 0, .int .i64 0, .int .i64 0, .int .i64 0, .int .i64 0, .int .i64 0, .int .i64 0, .int .i64 0, .slice none 0 0, .slice none 0 0, .slice none 0 0, .slice none 0 0, .slice none 0 0, .slice none 0 0, .slice none 0 0, .slice none 0 0] 96 (0, 0)) ∧ Below w.heap.size w wr))
  case atStart => exact ⟨0, by omega, by omega, by omega, rfl, H0⟩
  case round =>
    obtain ⟨j, hj0, hj, hgg, rfl, HX⟩ := hrel
    have hlt : w.heap.size < wr.heap.size := lt_of_block HX.out.1
    have hcase : j = 0 ∨ j = 1 ∨ j = 2 ∨ j = 3 ∨ j = 4 ∨ j = 5 ∨ j = 6 ∨ j = 7 ∨ j = 8 := by omega
    rcases hcase with rfl | rfl | rfl | rfl | rfl | rfl | rfl | rfl | rfl
    · have cj : wr.cell? ⟨w.heap.size, 16, none⟩ = some (.slice none 0 0) := blk_cell HX.out.1 16
      have fj : wr.frozen? ⟨w.heap.size, 16, none⟩ = false := blk_free HX.out.1 16
      have HNX : Hid ((wr.setCell ⟨w.heap.size, 16, none⟩ (.slice none 0 0)).heap[w.heap.size]? = some (.cells #[.int .i64 0, .int .i64 0, .int .i64 0, .int .i64 0, .int .i64 0, .int .i64 0, .int .i64 0, .int .i64 0, .int .i64 0, .int .i64 0, .int .i64 0, .int .i64 0, .int .i64 0, .int .i64 0, .int .i64 0, .int .i64 0, .slice none 0 0, .slice none 0 0, .slice none 0 0, .slice none 0 0, .slice none 0 0, .slice none 0 0, .slice none 0 0, .slice none 0 0] 96 (0, 0)) ∧ (wr.setCell ⟨w.heap.size, 16, none⟩ (.slice none 0 0)).heap[w.heap.size + 1]? = some (.cells #[.int .i64 0, .int .i64 0, .int .i64 0, .int .i64 0, .int .i64 0, .int .i64 0, .int .i64 0, .int .i64 0, .int .i64 0, .int .i64 0, .int .i64 0, .int .i64 0, .int .i64 0, .int .i64 0, .int .i64 0, .int .i64 0, .slice none 0 0, .slice none 0 0, .slice none 0 0, .slice none 0 0, .slice none 0 0, .slice none 0 0, .slice none 0 0, .slice none 0 0] 96 (0, 0)) ∧ Below w.heap.size w (wr.setCell ⟨w.heap.size, 16, none⟩ (.slice none 0 0))) := Lib.hid ⟨blk_set HX.out.1 16 _, blk_set_other HX.out.2.1 (by simp) _, HX.out.2.2.setCell (Nat.le_refl _) _⟩
      clear hj hj0
      go_wp2_with (go_at_call 167; (with_reducible refine (KC.out _).mono ?_); rintro e w2 ⟨rfl, rfl⟩)
      go_roundg (8)
      case measure => omega
      case rel => exact ⟨1, by omega, by omega, by omega, by go_num, HNX⟩
    · have cj : wr.cell? ⟨w.heap.size, 17, none⟩ = some (.slice none 0 0) := blk_cell HX.out.1 17
      have fj : wr.frozen? ⟨w.heap.size, 17, none⟩ = false := blk_free HX.out.1 17
      have HNX : Hid ((wr.setCell ⟨w.heap.size, 17, none⟩ (.slice none 0 0)).heap[w.heap.size]? = some (.cells #[.int .i64 0, .int .i64 0, .int .i64 0, .int .i64 0, .int .i64 0, .int .i64 0, .int .i64 0, .int .i64 0, .int .i64 0, .int .i64 0, .int .i64 0, .int .i64 0, .int .i64 0, .int .i64 0, .int .i64 0, .int .i64 0, .slice none 0 0, .slice none 0 0, .slice none 0 0, .slice none 0 0, .slice none 0 0, .slice none 0 0, .slice none 0 0, .slice none 0 0] 96 (0, 0)) ∧ (wr.setCell ⟨w.heap.size, 17, none⟩ (.slice none 0 0)).heap[w.heap.size + 1]? = some (.cells #[.int .i64 0, .int .i64 0, .int .i64 0, .int .i64 0, .int .i64 0, .int .i64 0, .int .i64 0, .int .i64 0, .int .i64 0, .int .i64 0, .int .i64 0, .int .i64 0, .int .i64 0, .int .i64 0, .int .i64 0, .int .i64 0, .slice none 0 0, .slice none 0 0, .slice none 0 0, .slice none 0 0, .slice none 0 0, .slice none 0 0, .slice none 0 0, .slice none 0 0] 96 (0, 0)) ∧ Below w.heap.size w (wr.setCell ⟨w.heap.size, 17, none⟩ (.slice none 0 0))) := Lib.hid ⟨blk_set HX.out.1 17 _, blk_set_other HX.out.2.1 (by simp) _, HX.out.2.2.setCell (Nat.le_refl _) _⟩
      clear hj hj0
      go_wp2_with (go_at_call 167; (with_reducible refine (KC.out _).mono ?_); rintro e w2 ⟨rfl, rfl⟩)
      go_roundg (7)
      case measure => omega
      case rel => exact ⟨2, by omega, by omega, by omega, by go_num, HNX⟩
    · have cj : wr.cell? ⟨w.heap.size, 18, none⟩ = some (.slice none 0 0) := blk_cell HX.out.1 18
      have fj : wr.frozen? ⟨w.heap.size, 18, none⟩ = false := blk_free HX.out.1 18
      have HNX : Hid ((wr.setCell ⟨w.heap.size, 18, none⟩ (.slice none 0 0)).heap[w.heap.size]? = some (.cells #[.int .i64 0, .int .i64 0, .int .i64 0, .int .i64 0, .int .i64 0, .int .i64 0, .int .i64 0, .int .i64 0, .int .i64 0, .int .i64 0, .int .i64 0, .int .i64 0, .int .i64 0, .int .i64 0, .int .i64 0, .int .i64 0, .slice none 0 0, .slice none 0 0, .slice none 0 0, .slice none 0 0, .slice none 0 0, .slice none 0 0, .slice none 0 0, .slice none 0 0] 96 (0, 0)) ∧ (wr.setCell ⟨w.heap.size, 18, none⟩ (.slice none 0 0)).heap[w.heap.size + 1]? = some (.cells #[.int .i64 0, .int .i64 0, .int .i64 0, .int .i64 0, .int .i64 0, .int .i64 0, .int .i64 0, .int .i64 0, .int .i64 0, .int .i64 0, .int .i64 0, .int .i64 0, .int .i64 0, .int .i64 0, .int .i64 0, .int .i64 0, .slice none 0 0, .slice none 0 0, .slice none 0 0, .slice none 0 0, .slice none 0 0, .slice none 0 0, .slice none 0 0, .slice none 0 0] 96 (0, 0)) ∧ Below w.heap.size w (wr.setCell ⟨w.heap.size, 18, none⟩ (.slice none 0 0))) := Lib.hid ⟨blk_set HX.out.1 18 _, blk_set_other HX.out.2.1 (by simp) _, HX.out.2.2.setCell (Nat.le_refl _) _⟩
      clear hj hj0
      go_wp2_with (go_at_call 167; (with_reducible refine (KC.out _).mono ?_); rintro e w2 ⟨rfl, rfl⟩)
      go_roundg (6)
      case measure => omega
      case rel => exact ⟨3, by omega, by omega, by omega, by go_num, HNX⟩
    · have cj : wr.cell? ⟨w.heap.size, 19, none⟩ = some (.slice none 0 0) := blk_cell HX.out.1 19
      have fj : wr.frozen? ⟨w.heap.size, 19, none⟩ = false := blk_free HX.out.1 19
      have HNX : Hid ((wr.setCell ⟨w.heap.size, 19, none⟩ (.slice none 0 0)).heap[w.heap.size]? = some (.cells #[.int .i64 0, .int .i64 0, .int .i64 0, .int .i64 0, .int .i64 0, .int .i64 0, .int .i64 0, .int .i64 0, .int .i64 0, .int .i64 0, .int .i64 0, .int .i64 0, .int .i64 0, .int .i64 0, .int .i64 0, .int .i64 0, .slice none 0 0, .slice none 0 0, .slice none 0 0, .slice none 0 0, .slice none 0 0, .slice none 0 0, .slice none 0 0, .slice none 0 0] 96 (0, 0)) ∧ (wr.setCell ⟨w.heap.size, 19, none⟩ (.slice none 0 0)).heap[w.heap.size + 1]? = some (.cells #[.int .i64 0, .int .i64 0, .int .i64 0, .int .i64 0, .int .i64 0, .int .i64 0, .int .i64 0, .int .i64 0, .int .i64 0, .int .i64 0, .int .i64 0, .int .i64 0, .int .i64 0, .int .i64 0, .int .i64 0, .int .i64 0, .slice none 0 0, .slice none 0 0, .slice none 0 0, .slice none 0 0, .slice none 0 0, .slice none 0 0, .slice none 0 0, .slice none 0 0] 96 (0, 0)) ∧ Below w.heap.size w (wr.setCell ⟨w.heap.size, 19, none⟩ (.slice none 0 0))) := Lib.hid ⟨blk_set HX.out.1 19 _, blk_set_other HX.out.2.1 (by simp) _, HX.out.2.2.setCell (Nat.le_refl _) _⟩
      clear hj hj0
      go_wp2_with (go_at_call 167; (with_reducible refine (KC.out _).mono ?_); rintro e w2 ⟨rfl, rfl⟩)
      go_roundg (5)
      case measure => omega
      case rel => exact ⟨4, by omega, by omega, by omega, by go_num, HNX⟩
    · have cj : wr.cell? ⟨w.heap.size, 20, none⟩ = some (.slice none 0 0) := blk_cell HX.out.1 20
      have fj : wr.frozen? ⟨w.heap.size, 20, none⟩ = false := blk_free HX.out.1 20
      have HNX : Hid ((wr.setCell ⟨w.heap.size, 20, none⟩ (.slice none 0 0)).heap[w.heap.size]? = some (.cells #[.int .i64 0, .int .i64 0, .int .i64 0, .int .i64 0, .int .i64 0, .int .i64 0, .int .i64 0, .int .i64 0, .int .i64 0, .int .i64 0, .int .i64 0, .int .i64 0, .int .i64 0, .int .i64 0, .int .i64 0, .int .i64 0, .slice none 0 0, .slice none 0 0, .slice none 0 0, .slice none 0 0, .slice none 0 0, .slice none 0 0, .slice none 0 0, .slice none 0 0] 96 (0, 0)) ∧ (wr.setCell ⟨w.heap.size, 20, none⟩ (.slice none 0 0)).heap[w.heap.size + 1]? = some (.cells #[.int .i64 0, .int .i64 0, .int .i64 0, .int .i64 0, .int .i64 0, .int .i64 0, .int .i64 0, .int .i64 0, .int .i64 0, .int .i64 0, .int .i64 0, .int .i64 0, .int .i64 0, .int .i64 0, .int .i64 0, .int .i64 0, .slice none 0 0, .slice none 0 0, .slice none 0 0, .slice none 0 0, .slice none 0 0, .slice none 0 0, .slice none 0 0, .slice none 0 0] 96 (0, 0)) ∧ Below w.heap.size w (wr.setCell ⟨w.heap.size, 20, none⟩ (.slice none 0 0))) := Lib.hid ⟨blk_set HX.out.1 20 _, blk_set_other HX.out.2.1 (by simp) _, HX.out.2.2.setCell (Nat.le_refl _) _⟩
      clear hj hj0
      go_wp2_with (go_at_call 167; (with_reducible refine (KC.out _).mono ?_); rintro e w2 ⟨rfl, rfl⟩)
      go_roundg (4)
      case measure => omega
      case rel => exact ⟨5, by omega, by omega, by omega, by go_num, HNX⟩
    · have cj : wr.cell? ⟨w.heap.size, 21, none⟩ = some (.slice none 0 0) := blk_cell HX.out.1 21
      have fj : wr.frozen? ⟨w.heap.size, 21, none⟩ = false := blk_free HX.out.1 21
      have HNX : Hid ((wr.setCell ⟨w.heap.size, 21, none⟩ (.slice none 0 0)).heap[w.heap.size]? = some (.cells #[.int .i64 0, .int .i64 0, .int .i64 0, .int .i64 0, .int .i64 0, .int .i64 0, .int .i64 0, .int .i64 0, .int .i64 0, .int .i64 0, .int .i64 0, .int .i64 0, .int .i64 0, .int .i64 0, .int .i64 0, .int .i64 0, .slice none 0 0, .slice none 0 0, .slice none 0 0, .slice none 0 0, .slice none 0 0, .slice none 0 0, .slice none 0 0, .slice none 0 0] 96 (0, 0)) ∧ (wr.setCell ⟨w.heap.size, 21, none⟩ (.slice none 0 0)).heap[w.heap.size + 1]? = some (.cells #[.int .i64 0, .int .i64 0, .int .i64 0, .int .i64 0, .int .i64 0, .int .i64 0, .int .i64 0, .int .i64 0, .int .i64 0, .int .i64 0, .int .i64 0, .int .i64 0, .int .i64 0, .int .i64 0, .int .i64 0, .int .i64 0, .slice none 0 0, .slice none 0 0, .slice none 0 0, .slice none 0 0, .slice none 0 0, .slice none 0 0, .slice none 0 0, .slice none 0 0] 96 (0, 0)) ∧ Below w.heap.size w (wr.setCell ⟨w.heap.size, 21, none⟩ (.slice none 0 0))) := Lib.hid ⟨blk_set HX.out.1 21 _, blk_set_other HX.out.2.1 (by simp) _, HX.out.2.2.setCell (Nat.le_refl _) _⟩
      clear hj hj0
      go_wp2_with (go_at_call 167; (with_reducible refine (KC.out _).mono ?_); rintro e w2 ⟨rfl, rfl⟩)
      go_roundg (3)
      case measure => omega
      case rel => exact ⟨6, by omega, by omega, by omega, by go_num, HNX⟩
    · have cj : wr.cell? ⟨w.heap.size, 22, none⟩ = some (.slice none 0 0) := blk_cell HX.out.1 22
      have fj : wr.frozen? ⟨w.heap.size, 22, none⟩ = false := blk_free HX.out.1 22
      have HNX : Hid ((wr.setCell ⟨w.heap.size, 22, none⟩ (.slice none 0 0)).heap[w.heap.size]? = some (.cells #[.int .i64 0, .int .i64 0, .int .i64 0, .int .i64 0, .int .i64 0, .int .i64 0, .int .i64 0, .int .i64 0, .int .i64 0, .int .i64 0, .int .i64 0, .int .i64 0, .int .i64 0, .int .i64 0, .int .i64 0, .int .i64 0, .slice none 0 0, .slice none 0 0, .slice none 0 0, .slice none 0 0, .slice none 0 0, .slice none 0 0, .slice none 0 0, .slice none 0 0] 96 (0, 0)) ∧ (wr.setCell ⟨w.heap.size, 22, none⟩ (.slice none 0 0)).heap[w.heap.size + 1]? = some (.cells #[.int .i64 0, .int .i64 0, .int .i64 0, .int .i64 0, .int .i64 0, .int .i64 0, .int .i64 0, .int .i64 0, .int .i64 0, .int .i64 0, .int .i64 0, .int .i64 0, .int .i64 0, .int .i64 0, .int .i64 0, .int .i64 0, .slice none 0 0, .slice none 0 0, .slice none 0 0, .slice none 0 0, .slice none 0 0, .slice none 0 0, .slice none 0 0, .slice none 0 0] 96 (0, 0)) ∧ Below w.heap.size w (wr.setCell ⟨w.heap.size, 22, none⟩ (.slice none 0 0))) := Lib.hid ⟨blk_set HX.out.1 22 _, blk_set_other HX.out.2.1 (by simp) _, HX.out.2.2.setCell (Nat.le_refl _) _⟩
      clear hj hj0
      go_wp2_with (go_at_call 167; (with_reducible refine (KC.out _).mono ?_); rintro e w2 ⟨rfl, rfl⟩)
      go_roundg (2)
      case measure => omega
      case rel => exact ⟨7, by omega, by omega, by omega, by go_num, HNX⟩
    · have cj : wr.cell? ⟨w.heap.size, 23, none⟩ = some (.slice none 0 0) := blk_cell HX.out.1 23
      have fj : wr.frozen? ⟨w.heap.size, 23, none⟩ = false := blk_free HX.out.1 23
      have HNX : Hid ((wr.setCell ⟨w.heap.size, 23, none⟩ (.slice none 0 0)).heap[w.heap.size]? = some (.cells #[.int .i64 0, .int .i64 0, .int .i64 0, .int .i64 0, .int .i64 0, .int .i64 0, .int .i64 0, .int .i64 0, .int .i64 0, .int .i64 0, .int .i64 0, .int .i64 0, .int .i64 0, .int .i64 0, .int .i64 0, .int .i64 0, .slice none 0 0, .slice none 0 0, .slice none 0 0, .slice none 0 0, .slice none 0 0, .slice none 0 0, .slice none 0 0, .slice none 0 0] 96 (0, 0)) ∧ (wr.setCell ⟨w.heap.size, 23, none⟩ (.slice none 0 0)).heap[w.heap.size + 1]? = some (.cells #[.int .i64 0, .int .i64 0, .int .i64 0, .int .i64 0, .int .i64 0, .int .i64 0, .int .i64 0, .int .i64 0, .int .i64 0, .int .i64 0, .int .i64 0, .int .i64 0, .int .i64 0, .int .i64 0, .int .i64 0, .int .i64 0, .slice none 0 0, .slice none 0 0, .slice none 0 0, .slice none 0 0, .slice none 0 0, .slice none 0 0, .slice none 0 0, .slice none 0 0] 96 (0, 0)) ∧ Below w.heap.size w (wr.setCell ⟨w.heap.size, 23, none⟩ (.slice none 0 0))) := Lib.hid ⟨blk_set HX.out.1 23 _, blk_set_other HX.out.2.1 (by simp) _, HX.out.2.2.setCell (Nat.le_refl _) _⟩
      clear hj hj0
      go_wp2_with (go_at_call 167; (with_reducible refine (KC.out _).mono ?_); rintro e w2 ⟨rfl, rfl⟩)
      go_roundg (1)
      case measure => omega
      case rel => exact ⟨8, by omega, by omega, by omega, by go_num, HNX⟩
    · have HR0 := Lib.hid (rangeE HX.out.1)
      have HT1 := Lib.hid (thereE HX.out.2.1)
      have HS : Hid ((Tryz.prog.info? 96).map (·.size) = some ([.int .i64 0, .int .i64 0, .int .i64 0, .int .i64 0, .int .i64 0, .int .i64 0, .int .i64 0, .int .i64 0, .int .i64 0, .int .i64 0, .int .i64 0, .int .i64 0, .int .i64 0, .int .i64 0, .int .i64 0, .int .i64 0, .slice none 0 0, .slice none 0 0, .slice none 0 0, .slice none 0 0, .slice none 0 0, .slice none 0 0, .slice none 0 0, .slice none 0 0] : List Value).length) := Lib.hid sizeE
      have HO := Lib.hid oneE
      have HFX := Lib.hid (setE HX.out.2.1)
      have HFB : Hid (Below w.heap.size w (wr.setCells (w.heap.size + 1) 0 [.int .i64 0, .int .i64 0, .int .i64 0, .int .i64 0, .int .i64 0, .int .i64 0, .int .i64 0, .int .i64 0, .int .i64 0, .int .i64 0, .int .i64 0, .int .i64 0, .int .i64 0, .int .i64 0, .int .i64 0, .int .i64 0, .slice none 0 0, .slice none 0 0, .slice none 0 0, .slice none 0 0, .slice none 0 0, .slice none 0 0, .slice none 0 0, .slice none 0 0])) := Lib.hid (belowSet HX.out.2.2 (Nat.le_refl _) (Nat.le_succ _) [.int .i64 0, .int .i64 0, .int .i64 0, .int .i64 0, .int .i64 0, .int .i64 0, .int .i64 0, .int .i64 0, .int .i64 0, .int .i64 0, .int .i64 0, .int .i64 0, .int .i64 0, .int .i64 0, .int .i64 0, .int .i64 0, .slice none 0 0, .slice none 0 0, .slice none 0 0, .slice none 0 0, .slice none 0 0, .slice none 0 0, .slice none 0 0, .slice none 0 0])
      have HT1' : Hid (wr.there (w.heap.size + 1) 0 ([.int .i64 0, .int .i64 0, .int .i64 0, .int .i64 0, .int .i64 0, .int .i64 0, .int .i64 0, .int .i64 0, .int .i64 0, .int .i64 0, .int .i64 0, .int .i64 0, .int .i64 0, .int .i64 0, .int .i64 0, .int .i64 0, .slice none 0 0, .slice none 0 0, .slice none 0 0, .slice none 0 0, .slice none 0 0, .slice none 0 0, .slice none 0 0, .slice none 0 0] : List Value).length) := HT1
      clear HT1 hgg hj hj0
      generalize hcs : ([.int .i64 0, .int .i64 0, .int .i64 0, .int .i64 0, .int .i64 0, .int .i64 0, .int .i64 0, .int .i64 0, .int .i64 0, .int .i64 0, .int .i64 0, .int .i64 0, .int .i64 0, .int .i64 0, .int .i64 0, .int .i64 0, .slice none 0 0, .slice none 0 0, .slice none 0 0, .slice none 0 0, .slice none 0 0, .slice none 0 0, .slice none 0 0, .slice none 0 0] : List Value) = cs at HR0 HT1' HS HO HFX HFB
      have HCS := Lib.hid hcs
      clear hcs
      go_wp2_with (first
        | (with_reducible refine wpList_load_mid rfl 96 (.tmp 1) rfl w.heap.size 0 rfl cs _ HR0.out Tryz.underlying96 rfl HS.out ?_)
        | (refine wpList_store_named rfl 96 (.tmp 2) (.tmp 16) rfl (w.heap.size + 1) 0 cs rfl rfl HT1'.out HS.out HO.out ?_; intro w4 hw4; rw [← hw4] at HFX HFB; clear hw4))
      refine bodyPost_ret (v := .agg cs.toArray) (results_cell_row rfl _ _ (w.heap.size + 1) _ _ _ _ rfl HFX.out Tryz.underlying96 rfl (by rw [← HCS.out]; exact sizeE)) rfl ?_
      exact ⟨by rw [← HCS.out], HFB.out⟩
end Go.Proofs.YtjohhjdicbeojaaGreatDoor.Ro
namespace Go.Proofs.YtjohhjdicbeojaaGreatDoor.Rp
open Go.RowKit Go.Proofs.YtjohhjdicbeojaaGreatDoor.Ra Go.Proofs.YtjohhjdicbeojaaGreatDoor.Rj Go.Proofs.YtjohhjdicbeojaaGreatDoor.Rl Go.Proofs.YtjohhjdicbeojaaGreatDoor.Rn Go.Proofs.YtjohhjdicbeojaaGreatDoor.Ro
set_option maxRecDepth 8000
theorem sizeE' : (Tryz.prog.info? 96).map (·.size) = some emptyCells.size := sizeE
theorem sizeEl : (Tryz.prog.info? 96).map (·.size) = some emptyCells.toList.length := sizeE
theorem oneE' : ∀ v ∈ emptyCells.toList, v.oneCell' = true := oneE
theorem thereE' {w : World} {b : Nat} (h : w.heap[b]? = some (.cells emptyCells 96 (0, 0))) : w.there b 0 emptyCells.toList.length := thereE h
theorem setE' {w : World} {b : Nat} (h : w.heap[b]? = some (.cells emptyCells 96 (0, 0))) : (w.setCells b 0 emptyCells.toList).heap[b]? = some (.cells emptyCells 96 (0, 0)) := setE h
theorem setOther {w : World} {b c : Nat} {o : Obj} (h : w.heap[b]? = some o) (hne : b ≠ c) (l : List Value) : (w.setCells c 0 l).heap[b]? = some o := ((Ri.grownBy_setCells c l 0 w).block b (lt_of_block h) (fun e => hne (Option.some.inj e))).trans h
theorem soundE (w : World) : Calls Tryz.prog 63 #[.agg emptyCells] w fun e w' => e = .returned (.bool true) ∧ Below w.heap.size w w' := sound_c w
theorem cloneE (w : World) : Calls Tryz.prog 107 #[.agg emptyCells] w fun e w' => e = .returned (.agg emptyCells) ∧ Below w.heap.size w w' := clone_c w
theorem results_cell_two {P : Program} {fn : Func} {p u v : Tmp} {ty : TypeId} (h : fn.results = #[.cell p ty, .tmp u, .tmp v]) (tmps : Array Value) (w : World) (g : Nat) (t : TypeId) (cs : Array Value) (fr : Nat × Nat) (d : TypeDesc)
    (hp : tmps.getD p undef = .pointer (some ⟨g, 0, none⟩)) (hg : w.heap[g]? = some (.cells cs t fr))
    (hu : P.underlying ty = some d) (hd : (match d with | .struct _ | .array _ _ => true | _ => false) = true) (hi : (P.info? ty).map (·.size) = some cs.size) :
    (results fn tmps).run P w = .ok (.tuple #[.agg cs, tmps.getD u undef, tmps.getD v undef]) w := by
  have hp' : tmps[p]?.getD undef = .pointer (some ⟨g, 0, none⟩) := by simpa using hp
  simp [results, h, hp', asAddr, run_loadVar_row w g t ty cs fr d hg hu hd hi]
set_option maxHeartbeats 4000000 in
theorem apply_c (w : World) : Calls Tryz.prog 60 #[.agg emptyCells, .slice none 0 0] w fun e w' => e = .returned (.tuple #[.agg emptyCells, .int .i64 0, .int .i64 0]) ∧ Below w.heap.size w w' := by
  have KS := Lib.hid (fun (W : World) => soundE W)
  have KC := Lib.hid (fun (W : World) => cloneE W)
  have hb0 := blk_old (blk_new w emptyCells 96) (.cells emptyCells 96)
  have hb1 := blk_new (w.alloc (.cells emptyCells 96)) emptyCells 96
  rw [sz_alloc] at hb1
  have H0 : Hid (((w.alloc (.cells emptyCells 96)).alloc (.cells emptyCells 96)).heap[w.heap.size]? = some (.cells emptyCells 96 (0, 0)) ∧ ((w.alloc (.cells emptyCells 96)).alloc (.cells emptyCells 96)).heap[w.heap.size + 1]? = some (.cells emptyCells 96 (0, 0)) ∧ Below w.heap.size w ((w.alloc (.cells emptyCells 96)).alloc (.cells emptyCells 96))) := Lib.hid ⟨hb0, hb1, ((Below.refl _ _).alloc (Nat.le_refl _) _).alloc (by rw [sz_alloc]; omega) _⟩
  clear hb0 hb1
  have HS := Lib.hid sizeE'
  have HSL := Lib.hid sizeEl
  have HO := Lib.hid oneE'
  have HT := Lib.hid (fun (W : World) (b : Nat) h => thereE' (w := W) (b := b) h)
  have HSE := Lib.hid (fun (W : World) (b : Nat) h => setE' (w := W) (b := b) h)
  go_enter Tryz.func60, Tryz.ntmps60
  go_upto_region 1 with fail
  rw [show ((w.alloc (.cells emptyCells 96)).alloc (.cells #[.int .i64 0, .int .i64 0, .int .i64 0, .int .i64 0, .int .i64 0, .int .i64 0, .int .i64 0, .int .i64 0, .int .i64 0, .int .i64 0, .int .i64 0, .int .i64 0, .int .i64 0, .int .i64 0, .int .i64 0, .int .i64 0, .slice none 0 0, .slice none 0 0, .slice none 0 0, .slice none 0 0, .slice none 0 0, .slice none 0 0, .slice none 0 0, .slice none 0 0] 96)) = ((w.alloc (.cells emptyCells 96)).alloc (.cells emptyCells 96)) from rfl]
  generalize ((w.alloc (.cells emptyCells 96)).alloc (.cells emptyCells 96)) = w0 at *
  generalize hE : emptyCells = E at *
  have HE := Lib.hid hE
  clear hE
  have hlt0 : w.heap.size < w0.heap.size := lt_of_block H0.out.1
  have hlt1 : w.heap.size + 1 < w0.heap.size := lt_of_block H0.out.2.1
  have HLT0 := Lib.hid hlt0
  have HLT1 := Lib.hid hlt1
  clear hlt0 hlt1
  go_wp2_with (first
    | (refine wpList_load_row rfl 96 (.tmp 2) rfl w.heap.size rfl _ E _ _ H0.out.1 Tryz.underlying96 rfl HS.out ?_)
    | (refine wpList_load_row rfl 96 (.tmp 2) rfl w.heap.size rfl _ E _ _ HX1.out.1 Tryz.underlying96 rfl HS.out ?_)
    | (refine wpList_load_row rfl 96 (.tmp 2) rfl w.heap.size rfl _ E _ _ HX3.out.1 Tryz.underlying96 rfl HS.out ?_)
    | (go_at_call 63; (with_reducible refine (KS.out _).mono ?_); rintro e w1 ⟨rfl, hb1⟩; have HX1 : Hid (w1.heap[w.heap.size]? = some (.cells E 96 (0, 0)) ∧ w1.heap[w.heap.size + 1]? = some (.cells E 96 (0, 0)) ∧ Below w.heap.size w w1) := Lib.hid ⟨blk_below H0.out.1 hb1 HLT0.out, blk_below H0.out.2.1 hb1 HLT1.out, H0.out.2.2.trans (hb1.mono H0.out.2.2.size)⟩; clear hb1)
    | (go_at_call 107; (with_reducible refine (KC.out _).mono ?_); rintro e w2 ⟨rfl, hb2⟩; have HX2 : Hid (w2.heap[w.heap.size]? = some (.cells E 96 (0, 0)) ∧ w2.heap[w.heap.size + 1]? = some (.cells E 96 (0, 0)) ∧ Below w.heap.size w w2) := Lib.hid ⟨blk_below HX1.out.1 hb2 (lt_of_block HX1.out.1), blk_below HX1.out.2.1 hb2 (lt_of_block HX1.out.2.1), HX1.out.2.2.trans (hb2.mono HX1.out.2.2.size)⟩; clear hb2)
    | (refine wpList_store_named rfl 96 (.tmp 2) (.tmp 15) rfl w.heap.size 0 E.toList rfl rfl (HT.out _ _ HX2.out.1) HSL.out HO.out ?_; intro w3 hw3; have HX3 : Hid (w3.heap[w.heap.size]? = some (.cells E 96 (0, 0)) ∧ w3.heap[w.heap.size + 1]? = some (.cells E 96 (0, 0)) ∧ Below w.heap.size w w3) := Lib.hid (by rw [hw3]; exact ⟨HSE.out _ _ HX2.out.1, setOther HX2.out.2.1 (by omega) _, belowSet HX2.out.2.2 (Nat.le_refl _) (Nat.le_refl _) _⟩); clear hw3))
  go_loopg [18] (1) (fun gg s18 wr => s18 = .int .i64 0 ∧ gg = 1 ∧ wr = w3)
  case atStart => exact ⟨rfl, rfl, rfl⟩
  case round =>
    obtain ⟨rfl, _, rfl⟩ := hrel
    go_wp2_with (first
      | (refine wpList_load_row rfl 96 (.tmp 2) rfl w.heap.size rfl _ E _ _ HX3.out.1 Tryz.underlying96 rfl HS.out ?_)
      | (refine wpList_store_named rfl 96 (.tmp 4) (.tmp 31) rfl (w.heap.size + 1) 0 E.toList rfl rfl (HT.out _ _ HX3.out.2.1) HSL.out HO.out ?_; intro w4 hw4; have HX4 : Hid (w4.heap[w.heap.size + 1]? = some (.cells E 96 (0, 0)) ∧ Below w.heap.size w w4) := Lib.hid (by rw [hw4]; exact ⟨HSE.out _ _ HX3.out.2.1, belowSet HX3.out.2.2 (Nat.le_refl _) (by omega) _⟩); clear hw4))
    refine bodyPost_ret (results_cell_two rfl _ w4 (w.heap.size + 1) _ _ _ _ rfl HX4.out.1 Tryz.underlying96 rfl HS.out) rfl ?_
    refine ⟨?_, HX4.out.2⟩
    simp [HE.out]
end Go.Proofs.YtjohhjdicbeojaaGreatDoor.Rp
