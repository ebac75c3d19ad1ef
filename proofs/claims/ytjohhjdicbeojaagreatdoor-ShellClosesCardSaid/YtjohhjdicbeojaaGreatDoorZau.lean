/- Texts joined: Ua Ub. -/
import Derived.Laws.OwnMore
import Derived.Test.YtjohhjdicbeojaaGreatDoorZat
namespace Go.Proofs.YtjohhjdicbeojaaGreatDoor.Ua
open Go.RowKit Go.Proofs.YtjohhjdicbeojaaGreatDoor.Ra Go.Proofs.YtjohhjdicbeojaaGreatDoor.Rc Go.Proofs.YtjohhjdicbeojaaGreatDoor.Rh Go.Proofs.YtjohhjdicbeojaaGreatDoor.Rj Go.Proofs.YtjohhjdicbeojaaGreatDoor.Rl Go.Proofs.YtjohhjdicbeojaaGreatDoor.Rn Go.Proofs.YtjohhjdicbeojaaGreatDoor.Ro Go.Proofs.YtjohhjdicbeojaaGreatDoor.Rp Go.Proofs.YtjohhjdicbeojaaGreatDoor.Rq
set_option maxRecDepth 8000
/-- Three blocks that have none. -/
def Three (w : World) (g : Nat) : Prop := ∀ k : Nat, k < 3 → w.cell? ⟨g, k, none⟩ = some (.complex .f64 13830554455654793216 0)
theorem Three.later {w w' : World} {g : Nat} (h : Three w g) (hb : Below w.heap.size w w') : Three w' g := fun k hk => (World.cell?_of_block (hb.block g (cell_lt (h k hk)))).trans (h k hk)
/-- The state's cells. -/
def volCells (v : Value) : Array Value := #[.int .i64 1, .int .i64 3, .int .i64 0, .int .i64 0, .int .i64 0, .int .i64 0, .int .i64 0, .int .i64 0, .int .i64 0, .int .i64 0, .int .i64 0, .int .i64 0, .int .i64 0, .int .i64 0, .int .i64 0, .int .i64 0, v, .slice none 0 0, .slice none 0 0, .slice none 0 0, .slice none 0 0, .slice none 0 0, .slice none 0 0, .slice none 0 0]
theorem neq_none (W : World) : (binOp .neq 151 (.complex .f64 13830554455654793216 0) (.complex .f64 13830554455654793216 0)).run Tryz.prog W = .ok (.bool false) W := by kernel_rfl
theorem closure_c (w : World) : Calls Tryz.prog 115 #[.complex .f64 13830554455654793216 0] w fun e w' => e = .returned (.bool false) ∧ w = w' := by
  have hn := neq_none
  go_enter Tryz.func115, Tryz.ntmps115
  go_wp2
  go_ret
  exact ⟨rfl, rfl⟩
set_option maxHeartbeats 2000000 in
theorem index_c (g c : Nat) (w : World) (h : Three w g) : Calls Tryz.prog 172 #[.slice (some ⟨g, 0, none⟩) 3 c, .func (.func 115) #[] #[]] w fun e w' => e = .returned (.int .i64 (-1)) ∧ w = w' := by
  have c0 := h 0 (by decide)
  have c1 := h 1 (by decide)
  have c2 := h 2 (by decide)
  have K := Lib.hid (fun (W : World) => closure_c W)
  go_enter Tryz.func172, Tryz.ntmps172
  go_wp2
  go_loopg [5, 8] (4) (fun gg _ s8 wr => ∃ j : Nat, j ≤ 3 ∧ 3 - j < gg ∧ s8 = .int .i64 (j : Int) ∧ wr = w)
  case atStart => exact ⟨0, by omega, by omega, rfl, rfl⟩
  case round =>
    obtain ⟨j, hj, hgg, rfl, rfl⟩ := hrel
    rcases (by omega : j = 0 ∨ j = 1 ∨ j = 2 ∨ j = 3) with rfl | rfl | rfl | rfl
    · go_wp2_with (go_at_call 115; (with_reducible refine (K.out _).mono ?_); rintro e w2 ⟨rfl, rfl⟩)
      go_roundg (3)
      case measure => omega
      case rel => exact ⟨1, by omega, by omega, by go_num, rfl⟩
    · go_wp2_with (go_at_call 115; (with_reducible refine (K.out _).mono ?_); rintro e w2 ⟨rfl, rfl⟩)
      go_roundg (2)
      case measure => omega
      case rel => exact ⟨2, by omega, by omega, by go_num, rfl⟩
    · go_wp2_with (go_at_call 115; (with_reducible refine (K.out _).mono ?_); rintro e w2 ⟨rfl, rfl⟩)
      go_roundg (1)
      case measure => omega
      case rel => exact ⟨3, by omega, by omega, by go_num, rfl⟩
    · go_wp2
      go_ret
      exact ⟨rfl, rfl⟩
theorem contains_c (g c : Nat) (w : World) (h : Three w g) : Calls Tryz.prog 114 #[.slice (some ⟨g, 0, none⟩) 3 c, .func (.func 115) #[] #[]] w fun e w' => e = .returned (.bool false) ∧ w = w' := by
  have K := Lib.hid (index_c g c w h)
  clear h
  go_enter Tryz.func114, Tryz.ntmps114
  go_wp2_with (go_at_call 172; (with_reducible refine K.out.mono ?_); rintro e w1 ⟨rfl, rfl⟩)
  go_ret
  exact ⟨rfl, rfl⟩
theorem index_entry0 (W : World) : (Instr.index 92 (.agg #[.int .i64 1, .int .i64 3, .int .i64 0, .int .i64 0, .int .i64 0, .int .i64 0, .int .i64 0, .int .i64 0, .int .i64 0, .int .i64 0, .int .i64 0, .int .i64 0, .int .i64 0, .int .i64 0, .int .i64 0, .int .i64 0]) (.int .i64 0)).run Tryz.prog W = .ok (.agg #[.int .i64 1, .int .i64 3]) W := by rfl
theorem index_entryN (j : Int) (h : 1 ≤ j ∧ j < 8) (W : World) : (Instr.index 92 (.agg #[.int .i64 1, .int .i64 3, .int .i64 0, .int .i64 0, .int .i64 0, .int .i64 0, .int .i64 0, .int .i64 0, .int .i64 0, .int .i64 0, .int .i64 0, .int .i64 0, .int .i64 0, .int .i64 0, .int .i64 0, .int .i64 0]) (.int .i64 j)).run Tryz.prog W = .ok (.agg #[.int .i64 0, .int .i64 0]) W := by
  have hcase : j = 1 ∨ j = 2 ∨ j = 3 ∨ j = 4 ∨ j = 5 ∨ j = 6 ∨ j = 7 := by omega
  rcases hcase with rfl | rfl | rfl | rfl | rfl | rfl | rfl <;> rfl
set_option maxHeartbeats 4000000 in
theorem sound_c (g c : Nat) (w : World) (h3 : Three w g) : Calls Tryz.prog 63 #[.agg #[.int .i64 1, .int .i64 3, .int .i64 0, .int .i64 0, .int .i64 0, .int .i64 0, .int .i64 0, .int .i64 0, .int .i64 0, .int .i64 0, .int .i64 0, .int .i64 0, .int .i64 0, .int .i64 0, .int .i64 0, .int .i64 0, .slice (some ⟨g, 0, none⟩) 3 c, .slice none 0 0, .slice none 0 0, .slice none 0 0, .slice none 0 0, .slice none 0 0, .slice none 0 0, .slice none 0 0]] w fun e w' => e = .returned (.bool true) ∧ Below w.heap.size w w' := by
  have hbx := blk_new w #[.int .i64 1, .int .i64 3, .int .i64 0, .int .i64 0, .int .i64 0, .int .i64 0, .int .i64 0, .int .i64 0, .int .i64 0, .int .i64 0, .int .i64 0, .int .i64 0, .int .i64 0, .int .i64 0, .int .i64 0, .int .i64 0, .slice (some ⟨g, 0, none⟩) 3 c, .slice none 0 0, .slice none 0 0, .slice none 0 0, .slice none 0 0, .slice none 0 0, .slice none 0 0, .slice none 0 0] 96
  have hb0 : Below w.heap.size w (w.alloc (.cells #[.int .i64 1, .int .i64 3, .int .i64 0, .int .i64 0, .int .i64 0, .int .i64 0, .int .i64 0, .int .i64 0, .int .i64 0, .int .i64 0, .int .i64 0, .int .i64 0, .int .i64 0, .int .i64 0, .int .i64 0, .int .i64 0, .slice (some ⟨g, 0, none⟩) 3 c, .slice none 0 0, .slice none 0 0, .slice none 0 0, .slice none 0 0, .slice none 0 0, .slice none 0 0, .slice none 0 0] 96)) := (Below.refl _ _).alloc (Nat.le_refl _) _
  have H3 := Lib.hid (h3.later hb0)
  have HB0 := Lib.hid hb0
  have HBX := Lib.hid hbx
  clear hbx hb0 h3
  obtain ⟨w0, hw0⟩ : ∃ W, W = w.alloc (.cells #[.int .i64 1, .int .i64 3, .int .i64 0, .int .i64 0, .int .i64 0, .int .i64 0, .int .i64 0, .int .i64 0, .int .i64 0, .int .i64 0, .int .i64 0, .int .i64 0, .int .i64 0, .int .i64 0, .int .i64 0, .int .i64 0, .slice (some ⟨g, 0, none⟩) 3 c, .slice none 0 0, .slice none 0 0, .slice none 0 0, .slice none 0 0, .slice none 0 0, .slice none 0 0, .slice none 0 0] 96) := ⟨_, rfl⟩
  rw [← hw0] at HBX HB0 H3
  go_enter Tryz.func63, Tryz.ntmps63
  go_upto_region 1 with fail
  rw [← hw0]
  clear hw0
  have HL := Lib.hid (lt_of_block HBX.out)
  go_wp2_with (refine wpList_load_mid rfl 92 (.tmp 6) rfl w.heap.size 0 rfl _ _ (fun k v hk => by rw [Nat.zero_add, blk_cell HBX.out]; have hk16 : k < 16 := (List.getElem?_eq_some_iff.1 hk).1; rcases (by omega : k = 0 ∨ k = 1 ∨ k = 2 ∨ k = 3 ∨ k = 4 ∨ k = 5 ∨ k = 6 ∨ k = 7 ∨ k = 8 ∨ k = 9 ∨ k = 10 ∨ k = 11 ∨ k = 12 ∨ k = 13 ∨ k = 14 ∨ k = 15) with rfl | rfl | rfl | rfl | rfl | rfl | rfl | rfl | rfl | rfl | rfl | rfl | rfl | rfl | rfl | rfl <;> exact hk : w0.rangeAt w.heap.size 0 [.int .i64 1, .int .i64 3, .int .i64 0, .int .i64 0, .int .i64 0, .int .i64 0, .int .i64 0, .int .i64 0, .int .i64 0, .int .i64 0, .int .i64 0, .int .i64 0, .int .i64 0, .int .i64 0, .int .i64 0, .int .i64 0]) Tryz.underlying92 rfl (by kernel_rfl) ?_)
  go_loopg [3, 4, 5, 8] (9) (fun gg _ _ _ s8 wr => ∃ j : Int, 0 ≤ j ∧ j ≤ 8 ∧ 8 - j < gg ∧ s8 = .int .i64 j ∧ Hid (Below w0.heap.size w0 wr))
  case atStart => exact ⟨0, by omega, by omega, by omega, rfl, Lib.hid (Below.refl _ _)⟩
  case round =>
    obtain ⟨j, hj0, hj, hgg, rfl, HR⟩ := hrel
    have KI := Lib.hid (fun (n a b : Int) (W : World) => in_c n a b W)
    have KC := Lib.hid (fun (f : Value) (W : World) => contains_nil f W)
    have KT := Lib.hid (fun (W : World) (hb : Below wr.heap.size wr W) => contains_c g c W ((H3.out.later HR.out).later hb))
    have hk := blk_below HBX.out HR.out HL.out
    have hlt : w.heap.size < wr.heap.size := lt_of_block hk
    have hcase : j = 0 ∨ j = 1 ∨ j = 2 ∨ j = 3 ∨ j = 4 ∨ j = 5 ∨ j = 6 ∨ j = 7 ∨ j = 8 := by omega
    rcases hcase with rfl | rfl | rfl | rfl | rfl | rfl | rfl | rfl | rfl
    · have hix := index_entry0
      have hba : Below wr.heap.size wr (wr.alloc (.cells #[.int .i64 1, .int .i64 3] 91)) := (Below.refl _ _).alloc (Nat.le_refl _) _
      have HBR := Lib.hid (HR.out.trans (hba.mono HR.out.size))
      have HBA := Lib.hid hba
      have cj : wr.cell? ⟨w.heap.size, 16, none⟩ = some (.slice (some ⟨g, 0, none⟩) 3 c) := blk_cell hk 16
      clear hk hj hj0 hba
      go_wp2_with (first
        | (go_at_call 113; (with_reducible refine (KI.out _ _ _ _).mono ?_); rintro e w2 ⟨rfl, rfl⟩)
        | (go_at_call 114; (with_reducible refine (KT.out _ HBA.out).mono ?_); rintro e w2 ⟨rfl, rfl⟩))
      go_roundg (8)
      case measure => omega
      case rel => exact ⟨1, by omega, by omega, by omega, by go_num, HBR⟩
    · have hix := index_entryN 1 (by decide)
      have hba : Below wr.heap.size wr (wr.alloc (.cells #[.int .i64 0, .int .i64 0] 91)) := (Below.refl _ _).alloc (Nat.le_refl _) _
      have HBR := Lib.hid (HR.out.trans (hba.mono HR.out.size))
      have HBA := Lib.hid hba
      have cj : wr.cell? ⟨w.heap.size, 17, none⟩ = some (.slice none 0 0) := blk_cell hk 17
      clear hk hj hj0 hba
      go_wp2_with (first
        | (go_at_call 113; (with_reducible refine (KI.out _ _ _ _).mono ?_); rintro e w2 ⟨rfl, rfl⟩)
        | (go_at_call 114; (with_reducible refine (KC.out _ _).mono ?_); rintro e w2 ⟨rfl, rfl⟩))
      go_roundg (7)
      case measure => omega
      case rel => exact ⟨2, by omega, by omega, by omega, by go_num, HBR⟩
    · have hix := index_entryN 2 (by decide)
      have hba : Below wr.heap.size wr (wr.alloc (.cells #[.int .i64 0, .int .i64 0] 91)) := (Below.refl _ _).alloc (Nat.le_refl _) _
      have HBR := Lib.hid (HR.out.trans (hba.mono HR.out.size))
      have HBA := Lib.hid hba
      have cj : wr.cell? ⟨w.heap.size, 18, none⟩ = some (.slice none 0 0) := blk_cell hk 18
      clear hk hj hj0 hba
      go_wp2_with (first
        | (go_at_call 113; (with_reducible refine (KI.out _ _ _ _).mono ?_); rintro e w2 ⟨rfl, rfl⟩)
        | (go_at_call 114; (with_reducible refine (KC.out _ _).mono ?_); rintro e w2 ⟨rfl, rfl⟩))
      go_roundg (6)
      case measure => omega
      case rel => exact ⟨3, by omega, by omega, by omega, by go_num, HBR⟩
    · have hix := index_entryN 3 (by decide)
      have hba : Below wr.heap.size wr (wr.alloc (.cells #[.int .i64 0, .int .i64 0] 91)) := (Below.refl _ _).alloc (Nat.le_refl _) _
      have HBR := Lib.hid (HR.out.trans (hba.mono HR.out.size))
      have HBA := Lib.hid hba
      have cj : wr.cell? ⟨w.heap.size, 19, none⟩ = some (.slice none 0 0) := blk_cell hk 19
      clear hk hj hj0 hba
      go_wp2_with (first
        | (go_at_call 113; (with_reducible refine (KI.out _ _ _ _).mono ?_); rintro e w2 ⟨rfl, rfl⟩)
        | (go_at_call 114; (with_reducible refine (KC.out _ _).mono ?_); rintro e w2 ⟨rfl, rfl⟩))
      go_roundg (5)
      case measure => omega
      case rel => exact ⟨4, by omega, by omega, by omega, by go_num, HBR⟩
    · have hix := index_entryN 4 (by decide)
      have hba : Below wr.heap.size wr (wr.alloc (.cells #[.int .i64 0, .int .i64 0] 91)) := (Below.refl _ _).alloc (Nat.le_refl _) _
      have HBR := Lib.hid (HR.out.trans (hba.mono HR.out.size))
      have HBA := Lib.hid hba
      have cj : wr.cell? ⟨w.heap.size, 20, none⟩ = some (.slice none 0 0) := blk_cell hk 20
      clear hk hj hj0 hba
      go_wp2_with (first
        | (go_at_call 113; (with_reducible refine (KI.out _ _ _ _).mono ?_); rintro e w2 ⟨rfl, rfl⟩)
        | (go_at_call 114; (with_reducible refine (KC.out _ _).mono ?_); rintro e w2 ⟨rfl, rfl⟩))
      go_roundg (4)
      case measure => omega
      case rel => exact ⟨5, by omega, by omega, by omega, by go_num, HBR⟩
    · have hix := index_entryN 5 (by decide)
      have hba : Below wr.heap.size wr (wr.alloc (.cells #[.int .i64 0, .int .i64 0] 91)) := (Below.refl _ _).alloc (Nat.le_refl _) _
      have HBR := Lib.hid (HR.out.trans (hba.mono HR.out.size))
      have HBA := Lib.hid hba
      have cj : wr.cell? ⟨w.heap.size, 21, none⟩ = some (.slice none 0 0) := blk_cell hk 21
      clear hk hj hj0 hba
      go_wp2_with (first
        | (go_at_call 113; (with_reducible refine (KI.out _ _ _ _).mono ?_); rintro e w2 ⟨rfl, rfl⟩)
        | (go_at_call 114; (with_reducible refine (KC.out _ _).mono ?_); rintro e w2 ⟨rfl, rfl⟩))
      go_roundg (3)
      case measure => omega
      case rel => exact ⟨6, by omega, by omega, by omega, by go_num, HBR⟩
    · have hix := index_entryN 6 (by decide)
      have hba : Below wr.heap.size wr (wr.alloc (.cells #[.int .i64 0, .int .i64 0] 91)) := (Below.refl _ _).alloc (Nat.le_refl _) _
      have HBR := Lib.hid (HR.out.trans (hba.mono HR.out.size))
      have HBA := Lib.hid hba
      have cj : wr.cell? ⟨w.heap.size, 22, none⟩ = some (.slice none 0 0) := blk_cell hk 22
      clear hk hj hj0 hba
      go_wp2_with (first
        | (go_at_call 113; (with_reducible refine (KI.out _ _ _ _).mono ?_); rintro e w2 ⟨rfl, rfl⟩)
        | (go_at_call 114; (with_reducible refine (KC.out _ _).mono ?_); rintro e w2 ⟨rfl, rfl⟩))
      go_roundg (2)
      case measure => omega
      case rel => exact ⟨7, by omega, by omega, by omega, by go_num, HBR⟩
    · have hix := index_entryN 7 (by decide)
      have hba : Below wr.heap.size wr (wr.alloc (.cells #[.int .i64 0, .int .i64 0] 91)) := (Below.refl _ _).alloc (Nat.le_refl _) _
      have HBR := Lib.hid (HR.out.trans (hba.mono HR.out.size))
      have HBA := Lib.hid hba
      have cj : wr.cell? ⟨w.heap.size, 23, none⟩ = some (.slice none 0 0) := blk_cell hk 23
      clear hk hj hj0 hba
      go_wp2_with (first
        | (go_at_call 113; (with_reducible refine (KI.out _ _ _ _).mono ?_); rintro e w2 ⟨rfl, rfl⟩)
        | (go_at_call 114; (with_reducible refine (KC.out _ _).mono ?_); rintro e w2 ⟨rfl, rfl⟩))
      go_roundg (1)
      case measure => omega
      case rel => exact ⟨8, by omega, by omega, by omega, by go_num, HBR⟩
    · go_wp2
      go_ret
      exact ⟨rfl, HB0.out.trans (HR.out.mono HB0.out.size)⟩
end Go.Proofs.YtjohhjdicbeojaaGreatDoor.Ua
namespace Go.Proofs.YtjohhjdicbeojaaGreatDoor.Ub
open Go.RowKit Go.Proofs.YtjohhjdicbeojaaGreatDoor.Ra Go.Proofs.YtjohhjdicbeojaaGreatDoor.Rc Go.Proofs.YtjohhjdicbeojaaGreatDoor.Rh Go.Proofs.YtjohhjdicbeojaaGreatDoor.Rj Go.Proofs.YtjohhjdicbeojaaGreatDoor.Rl Go.Proofs.YtjohhjdicbeojaaGreatDoor.Rn Go.Proofs.YtjohhjdicbeojaaGreatDoor.Ro Go.Proofs.YtjohhjdicbeojaaGreatDoor.Rp Go.Proofs.YtjohhjdicbeojaaGreatDoor.Rq Go.Proofs.YtjohhjdicbeojaaGreatDoor.Ua
set_option maxRecDepth 8000
theorem there_of {w : World} {b : Nat} {cs : Array Value} {t : TypeId} (h : w.heap[b]? = some (.cells cs t (0, 0))) (n : Nat) (hs : n = cs.size) : w.there b 0 n := fun k hk => by
  refine ⟨?_, blk_free h _⟩
  rw [blk_cell h, Array.getElem?_eq_getElem (by omega)]
  rfl
theorem set_of {w : World} {b : Nat} {cs ds : Array Value} {t : TypeId} (h : w.heap[b]? = some (.cells cs t (0, 0))) (hs : ds.size = cs.size) : (w.setCells b 0 ds.toList).heap[b]? = some (.cells ds t (0, 0)) := by
  rw [Ri.setCells_blk ds.toList 0 w _ h (by simp; omega)]
  rw [List.drop_eq_nil_of_le (by simp; omega)]
  simp
theorem sizeV (v : Value) : (Tryz.prog.info? 96).map (·.size) = some (volCells v).size := by
  rw [sizeE']
  rfl
theorem oneV (g c : Nat) : ∀ v ∈ (volCells (.slice (some ⟨g, 0, none⟩) 3 c)).toList, v.oneCell' = true := by
  intro v hv
  have : volCells (.slice (some ⟨g, 0, none⟩) 3 c) = #[.int .i64 1, .int .i64 3, .int .i64 0, .int .i64 0, .int .i64 0, .int .i64 0, .int .i64 0, .int .i64 0, .int .i64 0, .int .i64 0, .int .i64 0, .int .i64 0, .int .i64 0, .int .i64 0, .int .i64 0, .int .i64 0, .slice (some ⟨g, 0, none⟩) 3 c, .slice none 0 0, .slice none 0 0, .slice none 0 0, .slice none 0 0, .slice none 0 0, .slice none 0 0, .slice none 0 0] := rfl
  rw [this] at hv
  simp at hv
  rcases hv with rfl | rfl | rfl | rfl | rfl <;> rfl
theorem info_cx : (Tryz.prog.info? 151).map (fun i => (i.zero, i.size, i.bytes)) = some (some (.complex .f64 0 0), 1, 16) := by kernel_rfl
set_option maxHeartbeats 2000000 in
theorem sclone_c (g c : Nat) (w : World) (h : Three w g) : Calls Tryz.prog 167 #[.slice (some ⟨g, 0, none⟩) 3 c] w fun e w' => ∃ g' c', e = .returned (.slice (some ⟨g', 0, none⟩) 3 c') ∧ Three w' g' ∧ w.heap.size ≤ g' ∧ g' < w'.heap.size ∧ Below w.heap.size w w' := by
  have hnil := fun (W : World) => Lib.run_eql_slice_nil (P := Tryz.prog) W 93 151 (some ⟨g, 0, none⟩) 3 c 0 0 Tryz.underlying93
  obtain ⟨i0, hi, hz0, hz1, hz2⟩ := info_parts info_cx
  have HI := Lib.hid hi
  have HZ0 := Lib.hid hz0
  have HZ1 := Lib.hid hz1
  have HZ2 := Lib.hid hz2
  clear hi hz0 hz1 hz2
  have hb0 : Below w.heap.size w (w.alloc (.cells #[] 151)) := (Below.refl _ _).alloc (Nat.le_refl _) _
  have H3 := Lib.hid (h.later hb0)
  have HB0 := Lib.hid hb0
  have HO := Lib.hid (World.ownsRow_lit (base := w.heap.size) (e := 151) (size := 1) w #[] 0 (Nat.le_refl _) (by decide) rfl)
  clear h hb0
  go_enter Tryz.func167, Tryz.ntmps167
  go_wp2_with (at_builtin; go_loud (refine wpList_append_lies _ rfl _ _ 93 rfl w.heap.size 151 i0 (.complex .f64 0 0) 1 16 Tryz.underlying93 HI.out HZ0.out HZ1.out HZ2.out rfl (by decide) _ 0 [] rfl HO.out ⟨g, 0, none⟩ 3 c [.complex .f64 13830554455654793216 0, .complex .f64 13830554455654793216 0, .complex .f64 13830554455654793216 0] rfl rfl (fun j u hu => by
    have hj : j < 3 := (List.getElem?_eq_some_iff.1 hu).1
    rw [Go.Proofs.YtjohhjdicbeojaaGreatDoor.Re.add_plain, Nat.zero_add, H3.out j hj, ← hu]
    rcases (by omega : j = 0 ∨ j = 1 ∨ j = 2) with rfl | rfl | rfl <;> rfl) (by simp [Value.oneCell']) (by decide) (by decide) (by decide) (by rw [sz_alloc]; omega) _ rfl ?_))
  intro g3 cap3 w6 hown hgrow hat hlt
  have hn : Three w6 g3 := fun k hk => by
    have hh := hown.cells (g := g3) rfl k (.complex .f64 13830554455654793216 0) (by rcases (by omega : k = 0 ∨ k = 1 ∨ k = 2) with rfl | rfl | rfl <;> rfl)
    rwa [Go.Proofs.YtjohhjdicbeojaaGreatDoor.Re.add_plain, Nat.zero_add] at hh
  have hge : w.heap.size ≤ g3 := by
    rcases hat with e | e
    · exact Nat.le_of_eq (Option.some.inj e)
    · rw [e]; omega
  have hbel : Below w.heap.size w w6 := HB0.out.trans (Rt.below_grown HO.out (by rw [sz_alloc]; omega) hgrow)
  go_wp2
  go_ret
  exact ⟨_, _, rfl, hn, hge, hlt, hbel⟩
/-- The boxes in Clone: the state whose first list is to be cloned, or is; and the result's. -/
def ClA (g c : Nat) (w W : World) : Prop := W.heap[w.heap.size]? = some (.cells (volCells (.slice (some ⟨g, 0, none⟩) 3 c)) 96 (0, 0)) ∧ W.heap[w.heap.size + 1]? = some (.cells emptyCells 96 (0, 0)) ∧ Below w.heap.size w W
def ClB (g c : Nat) (w W : World) : Prop := ClA g c w W ∧ w.heap.size ≤ g ∧ g < W.heap.size ∧ Three W g
theorem setV (u v : Value) : (volCells u).setIfInBounds 16 v = volCells v := rfl
theorem setN (u : Value) (k : Nat) (h : 17 ≤ k ∧ k < 24) : (volCells u).setIfInBounds k (.slice none 0 0) = volCells u := by
  rcases (by omega : k = 17 ∨ k = 18 ∨ k = 19 ∨ k = 20 ∨ k = 21 ∨ k = 22 ∨ k = 23) with rfl | rfl | rfl | rfl | rfl | rfl | rfl <;> rfl
theorem three_set {W : World} {g b k : Nat} {v : Value} (h : Three W g) (hne : g ≠ b) : Three (W.setCell ⟨b, k, none⟩ v) g := fun j hj => by
  rw [← h j hj]
  exact World.cell?_of_block (Below.heap_setCell W ⟨b, k, none⟩ v g hne)
theorem ClA.first {g c g' c' : Nat} {w W : World} (h : ClA g c w W) (h3 : Three W g') (hge : w.heap.size ≤ g') (hlt : g' < W.heap.size) (hne : g' ≠ w.heap.size) : ClB g' c' w (W.setCell ⟨w.heap.size, 16, none⟩ (.slice (some ⟨g', 0, none⟩) 3 c')) := by
  refine ⟨⟨?_, blk_set_other h.2.1 (by simp) _, h.2.2.setCell (Nat.le_refl _) _⟩, hge, by rw [sz_set]; exact hlt, three_set h3 hne⟩
  have := blk_set h.1 16 (.slice (some ⟨g', 0, none⟩) 3 c')
  rwa [setV] at this
theorem ClA.next {g c : Nat} {w W : World} (h : ClB g c w W) (k : Nat) (hk : 17 ≤ k ∧ k < 24) (hne : g ≠ w.heap.size) : ClB g c w (W.setCell ⟨w.heap.size, k, none⟩ (.slice none 0 0)) := by
  refine ⟨⟨?_, blk_set_other h.1.2.1 (by simp) _, h.1.2.2.setCell (Nat.le_refl _) _⟩, h.2.1, by rw [sz_set]; exact h.2.2.1, three_set h.2.2.2 hne⟩
  have := blk_set h.1.1 k (.slice none 0 0)
  rwa [setN _ _ hk] at this
theorem ClB.ne {g c : Nat} {w W : World} (h : ClB g c w W) : g ≠ w.heap.size := fun e => by
  have := h.2.2.2 0 (by decide)
  rw [e, blk_cell h.1.1] at this
  exact absurd this (by show ¬ (some (Value.int .i64 1) = some _); intro e; cases e)
theorem ClB.ne1 {g c : Nat} {w W : World} (h : ClB g c w W) : g ≠ w.heap.size + 1 := fun e => by
  have := h.2.2.2 0 (by decide)
  rw [e, blk_cell h.1.2.1] at this
  exact absurd this (by show ¬ (some (Value.int .i64 0) = some _); intro e; cases e)
theorem three_sets {W : World} {g b : Nat} (l : List Value) (h : Three W g) (hl : g < W.heap.size) (hne : g ≠ b) : Three (W.setCells b 0 l) g ∧ g < (W.setCells b 0 l).heap.size := by
  have hg := Ri.grownBy_setCells b l 0 W
  refine ⟨fun k hk => ?_, Nat.lt_of_lt_of_le hl hg.size⟩
  rw [← h k hk]
  exact World.cell?_of_block (hg.block g hl (fun e => hne (Option.some.inj e)))
set_option maxHeartbeats 4000000 in
theorem clone_c (g c : Nat) (w : World) (h3 : Three w g) : Calls Tryz.prog 107 #[.agg (volCells (.slice (some ⟨g, 0, none⟩) 3 c))] w fun e w' => ∃ g' c', e = .returned (.agg (volCells (.slice (some ⟨g', 0, none⟩) 3 c'))) ∧ Three w' g' ∧ w.heap.size ≤ g' ∧ g' < w'.heap.size ∧ Below w.heap.size w w' := by
  have KC := Lib.hid (fun (W : World) => sclone_nil W)
  have KT := Lib.hid (fun (W : World) (h : Three W g) => sclone_c g c W h)
  have hb0 := blk_old (blk_new w (volCells (.slice (some ⟨g, 0, none⟩) 3 c)) 96) (.cells emptyCells 96)
  have hb1 := blk_new (w.alloc (.cells (volCells (.slice (some ⟨g, 0, none⟩) 3 c)) 96)) emptyCells 96
  rw [sz_alloc] at hb1
  have hbb : Below w.heap.size w ((w.alloc (.cells (volCells (.slice (some ⟨g, 0, none⟩) 3 c)) 96)).alloc (.cells emptyCells 96)) := ((Below.refl _ _).alloc (Nat.le_refl _) _).alloc (by rw [sz_alloc]; omega) _
  have H0 : Hid (ClA g c w ((w.alloc (.cells (volCells (.slice (some ⟨g, 0, none⟩) 3 c)) 96)).alloc (.cells emptyCells 96))) := Lib.hid ⟨hb0, hb1, hbb⟩
  have HT := Lib.hid (h3.later hbb)
  clear hb0 hb1 hbb h3
  go_enter Tryz.func107, Tryz.ntmps107
  go_upto_region 1 with fail
  rw [show ((w.alloc (.cells (volCells (.slice (some ⟨g, 0, none⟩) 3 c)) 96)).alloc (.cells #[.int .i64 0, .int .i64 0, .int .i64 0, .int .i64 0, .int .i64 0, .int .i64 0, .int .i64 0, .int .i64 0, .int .i64 0, .int .i64 0, .int .i64 0, .int .i64 0, .int .i64 0, .int .i64 0, .int .i64 0, .int .i64 0, .slice none 0 0, .slice none 0 0, .slice none 0 0, .slice none 0 0, .slice none 0 0, .slice none 0 0, .slice none 0 0, .slice none 0 0] 96)) = ((w.alloc (.cells (volCells (.slice (some ⟨g, 0, none⟩) 3 c)) 96)).alloc (.cells emptyCells 96)) from rfl]
  generalize ((w.alloc (.cells (volCells (.slice (some ⟨g, 0, none⟩) 3 c)) 96)).alloc (.cells emptyCells 96)) = w0 at *
  go_wp2
  go_loopg [3, 4] (9) (fun gg _ s4 wr => (gg = 9 ∧ s4 = .int .i64 0 ∧ wr = w0) ∨ ∃ (j : Int) (g' c' : Nat), 1 ≤ j ∧ j ≤ 8 ∧ 8 - j < gg ∧ s4 = .int .i64 j ∧ Hid (ClB g' c' w wr))
  case atStart => exact .inl ⟨rfl, rfl, rfl⟩
  case round =>
    rcases hrel with ⟨rfl, rfl, rfl⟩ | ⟨j, g', c', hj0, hj, hgg, rfl, HX⟩
    · have hlt : w.heap.size < wr.heap.size := lt_of_block H0.out.1
      have cj : wr.cell? ⟨w.heap.size, 16, none⟩ = some (.slice (some ⟨g, 0, none⟩) 3 c) := blk_cell H0.out.1 16
      have HTN := Lib.hid hlt
      go_wp2_with (go_at_call 167; (with_reducible refine (KT.out _ HT.out).mono ?_); rintro e w2 ⟨g', c', rfl, h3', hge, hlt', hb2⟩; have hk2 := blk_below H0.out.1 hb2 HTN.out; have hlt2 : w.heap.size < w2.heap.size := lt_of_block hk2; have fj : w2.frozen? ⟨w.heap.size, 16, none⟩ = false := blk_free hk2 16; have cj2 : w2.cell? ⟨w.heap.size, 16, none⟩ = some (.slice (some ⟨g, 0, none⟩) 3 c) := blk_cell hk2 16; have HN := Lib.hid (ClA.first (c' := c') (⟨hk2, blk_below H0.out.2.1 hb2 (lt_of_block H0.out.2.1), H0.out.2.2.trans (hb2.mono H0.out.2.2.size)⟩ : ClA g c w w2) h3' (Nat.le_trans H0.out.2.2.size hge) hlt' (by have := HTN.out; omega)); clear h3' hge hlt' hb2 hk2)
      go_roundg (8)
      case measure => omega
      case rel => exact .inr ⟨1, g', c', by omega, by omega, by omega, by go_num, HN⟩
    · have hlt : w.heap.size < wr.heap.size := lt_of_block HX.out.1.1
      have hcase : j = 1 ∨ j = 2 ∨ j = 3 ∨ j = 4 ∨ j = 5 ∨ j = 6 ∨ j = 7 ∨ j = 8 := by omega
      rcases hcase with rfl | rfl | rfl | rfl | rfl | rfl | rfl | rfl
      · have cj : wr.cell? ⟨w.heap.size, 17, none⟩ = some (.slice none 0 0) := blk_cell HX.out.1.1 17
        have fj : wr.frozen? ⟨w.heap.size, 17, none⟩ = false := blk_free HX.out.1.1 17
        have HN := Lib.hid (ClA.next HX.out 17 (by decide) HX.out.ne)
        clear hj hj0
        go_wp2_with (go_at_call 167; (with_reducible refine (KC.out _).mono ?_); rintro e w2 ⟨rfl, rfl⟩)
        go_roundg (7)
        case measure => omega
        case rel => exact .inr ⟨2, g', c', by omega, by omega, by omega, by go_num, HN⟩
      · have cj : wr.cell? ⟨w.heap.size, 18, none⟩ = some (.slice none 0 0) := blk_cell HX.out.1.1 18
        have fj : wr.frozen? ⟨w.heap.size, 18, none⟩ = false := blk_free HX.out.1.1 18
        have HN := Lib.hid (ClA.next HX.out 18 (by decide) HX.out.ne)
        clear hj hj0
        go_wp2_with (go_at_call 167; (with_reducible refine (KC.out _).mono ?_); rintro e w2 ⟨rfl, rfl⟩)
        go_roundg (6)
        case measure => omega
        case rel => exact .inr ⟨3, g', c', by omega, by omega, by omega, by go_num, HN⟩
      · have cj : wr.cell? ⟨w.heap.size, 19, none⟩ = some (.slice none 0 0) := blk_cell HX.out.1.1 19
        have fj : wr.frozen? ⟨w.heap.size, 19, none⟩ = false := blk_free HX.out.1.1 19
        have HN := Lib.hid (ClA.next HX.out 19 (by decide) HX.out.ne)
        clear hj hj0
        go_wp2_with (go_at_call 167; (with_reducible refine (KC.out _).mono ?_); rintro e w2 ⟨rfl, rfl⟩)
        go_roundg (5)
        case measure => omega
        case rel => exact .inr ⟨4, g', c', by omega, by omega, by omega, by go_num, HN⟩
      · have cj : wr.cell? ⟨w.heap.size, 20, none⟩ = some (.slice none 0 0) := blk_cell HX.out.1.1 20
        have fj : wr.frozen? ⟨w.heap.size, 20, none⟩ = false := blk_free HX.out.1.1 20
        have HN := Lib.hid (ClA.next HX.out 20 (by decide) HX.out.ne)
        clear hj hj0
        go_wp2_with (go_at_call 167; (with_reducible refine (KC.out _).mono ?_); rintro e w2 ⟨rfl, rfl⟩)
        go_roundg (4)
        case measure => omega
        case rel => exact .inr ⟨5, g', c', by omega, by omega, by omega, by go_num, HN⟩
      · have cj : wr.cell? ⟨w.heap.size, 21, none⟩ = some (.slice none 0 0) := blk_cell HX.out.1.1 21
        have fj : wr.frozen? ⟨w.heap.size, 21, none⟩ = false := blk_free HX.out.1.1 21
        have HN := Lib.hid (ClA.next HX.out 21 (by decide) HX.out.ne)
        clear hj hj0
        go_wp2_with (go_at_call 167; (with_reducible refine (KC.out _).mono ?_); rintro e w2 ⟨rfl, rfl⟩)
        go_roundg (3)
        case measure => omega
        case rel => exact .inr ⟨6, g', c', by omega, by omega, by omega, by go_num, HN⟩
      · have cj : wr.cell? ⟨w.heap.size, 22, none⟩ = some (.slice none 0 0) := blk_cell HX.out.1.1 22
        have fj : wr.frozen? ⟨w.heap.size, 22, none⟩ = false := blk_free HX.out.1.1 22
        have HN := Lib.hid (ClA.next HX.out 22 (by decide) HX.out.ne)
        clear hj hj0
        go_wp2_with (go_at_call 167; (with_reducible refine (KC.out _).mono ?_); rintro e w2 ⟨rfl, rfl⟩)
        go_roundg (2)
        case measure => omega
        case rel => exact .inr ⟨7, g', c', by omega, by omega, by omega, by go_num, HN⟩
      · have cj : wr.cell? ⟨w.heap.size, 23, none⟩ = some (.slice none 0 0) := blk_cell HX.out.1.1 23
        have fj : wr.frozen? ⟨w.heap.size, 23, none⟩ = false := blk_free HX.out.1.1 23
        have HN := Lib.hid (ClA.next HX.out 23 (by decide) HX.out.ne)
        clear hj hj0
        go_wp2_with (go_at_call 167; (with_reducible refine (KC.out _).mono ?_); rintro e w2 ⟨rfl, rfl⟩)
        go_roundg (1)
        case measure => omega
        case rel => exact .inr ⟨8, g', c', by omega, by omega, by omega, by go_num, HN⟩
      · have HSV := Lib.hid (sizeV (.slice (some ⟨g', 0, none⟩) 3 c'))
        have HFX := Lib.hid (set_of (ds := volCells (.slice (some ⟨g', 0, none⟩) 3 c')) HX.out.1.2.1 rfl)
        have HFB : Hid (Below w.heap.size w (wr.setCells (w.heap.size + 1) 0 (volCells (.slice (some ⟨g', 0, none⟩) 3 c')).toList)) := Lib.hid (belowSet HX.out.1.2.2 (Nat.le_refl _) (Nat.le_succ _) _)
        have HF3 : Hid (Three (wr.setCells (w.heap.size + 1) 0 (volCells (.slice (some ⟨g', 0, none⟩) 3 c')).toList) g' ∧ g' < (wr.setCells (w.heap.size + 1) 0 (volCells (.slice (some ⟨g', 0, none⟩) 3 c')).toList).heap.size) := Lib.hid (three_sets _ HX.out.2.2.2 HX.out.2.2.1 HX.out.ne1)
        have HO := Lib.hid (oneV g' c')
        have HT1 := Lib.hid (there_of HX.out.1.2.1 24 rfl)
        have HR0 := Lib.hid HX.out.1.1
        have HGE := Lib.hid HX.out.2.1
        clear hgg hj hj0
        have hsl : (Tryz.prog.info? 96).map (·.size) = some (volCells (.slice (some ⟨g', 0, none⟩) 3 c')).toList.length := HSV.out
        have hth : wr.there (w.heap.size + 1) 0 (volCells (.slice (some ⟨g', 0, none⟩) 3 c')).toList.length := HT1.out
        have HSL := Lib.hid hsl
        have HTH := Lib.hid hth
        clear hsl hth
        generalize hcs : volCells (.slice (some ⟨g', 0, none⟩) 3 c') = cs at *
        have HCS := Lib.hid hcs
        clear hcs
        go_wp2_with (first
          | (refine wpList_load_row rfl 96 (.tmp 1) rfl w.heap.size rfl _ cs _ _ HR0.out Tryz.underlying96 rfl HSV.out ?_)
          | (refine wpList_store_named rfl 96 (.tmp 2) (.tmp 16) rfl (w.heap.size + 1) 0 cs.toList rfl rfl HTH.out HSL.out HO.out ?_; intro w4 hw4; rw [← hw4] at HFX HFB HF3; clear hw4))
        refine bodyPost_ret (v := .agg cs) (results_cell_row rfl _ _ (w.heap.size + 1) _ _ _ _ rfl HFX.out Tryz.underlying96 rfl HSV.out) rfl ?_
        exact ⟨g', c', by rw [← HCS.out], HF3.out.1, HGE.out, HF3.out.2, HFB.out⟩
end Go.Proofs.YtjohhjdicbeojaaGreatDoor.Ub
