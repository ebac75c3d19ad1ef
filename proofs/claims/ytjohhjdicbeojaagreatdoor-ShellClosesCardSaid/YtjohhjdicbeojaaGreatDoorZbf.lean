/- Texts joined: Vh. -/
import Derived.Test.YtjohhjdicbeojaaGreatDoorZax
import Derived.Test.YtjohhjdicbeojaaGreatDoorZbe
namespace Go.Proofs.YtjohhjdicbeojaaGreatDoor.Vh
open Go.RowKit Go.Proofs.YtjohhjdicbeojaaGreatDoor.Ra Go.Proofs.YtjohhjdicbeojaaGreatDoor.Rc Go.Proofs.YtjohhjdicbeojaaGreatDoor.Re Go.Proofs.YtjohhjdicbeojaaGreatDoor.Rj Go.Proofs.YtjohhjdicbeojaaGreatDoor.Rl Go.Proofs.YtjohhjdicbeojaaGreatDoor.Rn Go.Proofs.YtjohhjdicbeojaaGreatDoor.Ro Go.Proofs.YtjohhjdicbeojaaGreatDoor.Rq Go.Proofs.YtjohhjdicbeojaaGreatDoor.Ua Go.Proofs.YtjohhjdicbeojaaGreatDoor.Ub Go.Proofs.YtjohhjdicbeojaaGreatDoor.Va Go.Proofs.YtjohhjdicbeojaaGreatDoor.Vb Go.Proofs.YtjohhjdicbeojaaGreatDoor.Vc Go.Proofs.YtjohhjdicbeojaaGreatDoor.Vd Go.Proofs.YtjohhjdicbeojaaGreatDoor.Ve Go.Proofs.YtjohhjdicbeojaaGreatDoor.Vg
set_option maxRecDepth 8000
/-- A pool with one volume. -/
structure VolAt (B : Nat) (w : World) (P G R T : Nat) (x : PoolV) : Prop where
  pool : PoolAt B w P G R x
  roll : RollAt w R 1 3 (.pointer (some ⟨T, 0, none⟩))
  tab : TabAt w T
theorem VolAt.below {B : Nat} {w w' : World} {P G R T : Nat} {x : PoolV} (h : VolAt B w P G R T x) (hb : Below w.heap.size w w') : VolAt B w' P G R T x := ⟨h.pool.below hb, h.roll.below hb, h.tab.below hb⟩
theorem VolAt.kept {ts : List TypeId} {B C : Nat} {w w' : World} {P G R T : Nat} {x : PoolV} (h : VolAt B w P G R T x) (hk : Kept ts C w w') (h1 : ts.contains 107 = false) (h2 : ts.contains 148 = false) (h3 : ts.contains 223 = false) (h4 : ts.contains 289 = false) : VolAt B w' P G R T x := ⟨h.pool.kept hk h1, Vg.RollAt.kept h.roll hk h2, Ve.TabAt.kept h.tab hk h3 h4⟩
theorem VolAt.drew {B : Nat} {w : World} {P G R T : Nat} {x : PoolV} (h : VolAt B w P G R T x) : VolAt B w.drew P G R T x := ⟨h.pool.drew, Vg.RollAt.drew h.roll, Vg.TabAt.drew h.tab⟩
/-- Behind Clone. -/
structure Cloned (w w2 : World) (g c : Nat) : Prop where
  there : w2.there w.heap.size 0 (volCells (.slice (some ⟨g, 0, none⟩) 3 c)).toList.length
  size : (Tryz.prog.info? 96).map (·.size) = some (volCells (.slice (some ⟨g, 0, none⟩) 3 c)).toList.length
  blk : (w2.setCells w.heap.size 0 (volCells (.slice (some ⟨g, 0, none⟩) 3 c)).toList).heap[w.heap.size]? = some (.cells (volCells (.slice (some ⟨g, 0, none⟩) 3 c)) 96 (0, 0))
  below : Below w.heap.size w (w2.setCells w.heap.size 0 (volCells (.slice (some ⟨g, 0, none⟩) 3 c)).toList)
  three : Three (w2.setCells w.heap.size 0 (volCells (.slice (some ⟨g, 0, none⟩) 3 c)).toList) g
theorem cloned {w w1 w2 : World} {g : Nat} (c : Nat) (hr : w1.heap[w.heap.size]? = some (.cells emptyCells 96 (0, 0))) (hl : Below w.heap.size w w1) (h3 : Three w2 g) (hge : w1.heap.size ≤ g) (hlt : g < w2.heap.size) (hb : Below w1.heap.size w1 w2) : Cloned w w2 g c := by
  have hr2 := blk_below hr hb (lt_of_block hr)
  have hne : g ≠ w.heap.size := by have := lt_of_block hr; omega
  exact ⟨there_of hr2 24 rfl, sizeV _, set_of (ds := volCells (.slice (some ⟨g, 0, none⟩) 3 c)) hr2 rfl, belowSet (hl.trans (hb.mono hl.size)) (Nat.le_refl _) (Nat.le_refl _) _, (three_sets _ h3 hlt hne).1⟩
set_option maxHeartbeats 4000000 in
theorem pstate_c {B : Nat} {w : World} {P G R T : Nat} {x : PoolV} (h : VolAt B w P G R T x) : Calls Tryz.prog 76 #[.pointer (some ⟨P, 0, none⟩)] w fun e w' => ∃ g c, (e = .returned (.agg (volCells (.slice (some ⟨g, 0, none⟩) 3 c)))) ∧ Three w' g ∧ Below w.heap.size w w' := by
  have KS := Lib.hid (fun (W : World) (hh : VolAt B W P G R T x) => state_c hh.roll hh.tab)
  have KC := Lib.hid (fun (g c : Nat) (W : World) (h3 : Three W g) => Ub.clone_c g c W h3)
  have HR0 := Lib.hid (blk_new w emptyCells 96)
  have hbb : Below w.heap.size w (w.alloc (.cells emptyCells 96)) := (Below.refl _ _).alloc (Nat.le_refl _) _
  have H0 := Lib.hid (h.below hbb)
  have HL0 := Lib.hid hbb
  clear h hbb
  go_enter Tryz.func76, Tryz.ntmps76
  go_upto_region 1 with fail
  rw [show (w.alloc (.cells #[.int .i64 0, .int .i64 0, .int .i64 0, .int .i64 0, .int .i64 0, .int .i64 0, .int .i64 0, .int .i64 0, .int .i64 0, .int .i64 0, .int .i64 0, .int .i64 0, .int .i64 0, .int .i64 0, .int .i64 0, .int .i64 0, .slice none 0 0, .slice none 0 0, .slice none 0 0, .slice none 0 0, .slice none 0 0, .slice none 0 0, .slice none 0 0, .slice none 0 0] 96)) = (w.alloc (.cells emptyCells 96)) from rfl]
  generalize (w.alloc (.cells emptyCells 96)) = w0 at *
  have c4 : w0.cell? ⟨P, 4, none⟩ = some (.pointer (some ⟨R, 0, none⟩)) := blk_cell H0.out.pool.blk 4
  go_wp2_with (first
    | (go_at_call 132; (with_reducible refine (KS.out _ H0.out).mono ?_); rintro e w1 ⟨g, c, rfl, h3, _, _, hb1⟩; have HR1 := Lib.hid (blk_below HR0.out hb1 (lt_of_block HR0.out)); have HL1 := Lib.hid (HL0.out.trans (hb1.mono HL0.out.size)); have H31 := Lib.hid h3; clear hb1 h3)
    | (go_at_call 107; go_loud (refine (KC.out _ _ _ H31.out).mono ?_); rintro e w2 ⟨g2, c2, rfl, h3, hge, hlt, hb2⟩; have HC := Lib.hid (cloned c2 HR1.out HL1.out h3 hge hlt hb2); have HO := Lib.hid (oneV g2 c2); clear h3 hge hlt hb2)
    | (refine wpList_store_named rfl 96 (.tmp 2) (.tmp 11) rfl w.heap.size 0 (volCells (.slice (some ⟨g2, 0, none⟩) 3 c2)).toList rfl rfl HC.out.there HC.out.size HO.out ?_; intro w4 hw4; have HFX := Lib.hid HC.out.blk; have HFB := Lib.hid HC.out.below; have HF3 := Lib.hid HC.out.three; rw [← hw4] at HFX HFB HF3; clear hw4))
  refine bodyPost_ret (v := .agg (volCells (.slice (some ⟨g2, 0, none⟩) 3 c2))) (results_cell_row rfl _ _ w.heap.size _ _ _ _ rfl HFX.out Tryz.underlying96 rfl (sizeV _)) rfl ?_
  exact ⟨g2, c2, rfl, HF3.out, HFB.out⟩
/-- A sector of bytes 0. -/
structure ZeroSec (w : World) (v : Value) : Prop where
  sec : ∃ g, v = .slice (some ⟨g, 0, none⟩) 64 64 ∧ w.heap[g]? = some (.cells (zeroVals 64).toArray 5 (0, 0))
theorem ZeroSec.below {w w' : World} {v : Value} (h : ZeroSec w v) (hb : Below w.heap.size w w') : ZeroSec w' v := by
  obtain ⟨g, h1, h2⟩ := h.sec
  exact ⟨g, h1, blk_below h2 hb (lt_of_block h2)⟩
theorem ZeroSec.kept {ts : List TypeId} {C : Nat} {w w' : World} {v : Value} (h : ZeroSec w v) (hk : Kept ts C w w') (ht : ts.contains 5 = false) : ZeroSec w' v := by
  obtain ⟨g, h1, h2⟩ := h.sec
  exact ⟨g, h1, hk.at h2 ht⟩
set_option maxHeartbeats 4000000 in
theorem read_c {B : Nat} {w : World} {P G R T : Nat} {x : PoolV} (h : VolAt B w P G R T x) (j : Int) (h0 : 0 ≤ j) (h3 : j < 3) : Calls Tryz.prog 126 #[.pointer (some ⟨P, 0, none⟩), .agg #[.int .i64 4, .int .i64 0, .int .i64 j, .int .i64 0, .slice none 0 0]] w fun e w' => ∃ v, (e = .returned v) ∧ ZeroSec w' v ∧ Below w.heap.size w w' := by
  have kg := fun (W : World) (hh : VolAt B W P G R T x) => rget_c hh.roll hh.tab j h0
  simp only [if_pos h3] at kg
  have KG := Lib.hid kg
  have KM := Lib.hid (fun (W : World) => must_ok W)
  have hmk := St.make64
  have HB0 := Lib.hid (BoxAt.mk (blk_new w #[.int .i64 4, .int .i64 0, .int .i64 j, .int .i64 0, .slice none 0 0] 24))
  have hbb : Below w.heap.size w (w.alloc (.cells #[.int .i64 4, .int .i64 0, .int .i64 j, .int .i64 0, .slice none 0 0] 24)) := (Below.refl _ _).alloc (Nat.le_refl _) _
  have H0 := Lib.hid (h.below hbb)
  have HL0 := Lib.hid hbb
  clear h kg h3 hbb
  go_enter Tryz.func126, Tryz.ntmps126
  go_upto_region 1 with fail
  generalize (w.alloc (.cells #[.int .i64 4, .int .i64 0, .int .i64 j, .int .i64 0, .slice none 0 0] 24)) = w0 at *
  have c4 : w0.cell? ⟨P, 4, none⟩ = some (.pointer (some ⟨R, 0, none⟩)) := blk_cell H0.out.pool.blk 4
  obtain ⟨b0, b1, b2, b3, b4⟩ := HB0.out.cells
  have HD := Lib.hid H0.out.drew
  go_region_with (go_at_call 182; (with_reducible refine (KG.out _ HD.out).mono ?_); rintro e w1 ⟨rfl, hb1⟩; have HL1 := Lib.hid (HL0.out.drew.trans (hb1.mono HL0.out.size)); clear hb1)
  all_goals (
    clear c4 b0 b1 b2 b3 b4
    go_wp2_with (go_at_call 79; (with_reducible refine (KM.out _).mono ?_); rintro e w2 ⟨rfl, rfl⟩)
    go_ret
    exact ⟨_, rfl, ⟨_, rfl, blk_new _ _ _⟩, HL1.out.alloc HL1.out.size _⟩)
set_option maxHeartbeats 4000000 in
theorem read_bad {B : Nat} {w : World} {P G R T : Nat} {x : PoolV} (h : VolAt B w P G R T x) (j : Int) (h0 : 3 ≤ j) : Calls Tryz.prog 126 #[.pointer (some ⟨P, 0, none⟩), .agg #[.int .i64 4, .int .i64 0, .int .i64 j, .int .i64 0, .slice none 0 0]] w fun e w' => (e = .panicked [{ v := .iface 167 (.agg #[.int .i64 5]), recovered := false }]) ∧ Below w.heap.size w w' := by
  have kg := fun (W : World) (hh : VolAt B W P G R T x) => rget_c hh.roll hh.tab j (by omega)
  simp only [if_neg (show ¬ j < 3 by omega)] at kg
  have KG := Lib.hid kg
  have KM := Lib.hid (fun (W : World) => must_bad 5 (by decide) W)
  have HB0 := Lib.hid (BoxAt.mk (blk_new w #[.int .i64 4, .int .i64 0, .int .i64 j, .int .i64 0, .slice none 0 0] 24))
  have hbb : Below w.heap.size w (w.alloc (.cells #[.int .i64 4, .int .i64 0, .int .i64 j, .int .i64 0, .slice none 0 0] 24)) := (Below.refl _ _).alloc (Nat.le_refl _) _
  have H0 := Lib.hid (h.below hbb)
  have HL0 := Lib.hid hbb
  clear h kg hbb
  go_enter Tryz.func126, Tryz.ntmps126
  go_upto_region 1 with fail
  generalize (w.alloc (.cells #[.int .i64 4, .int .i64 0, .int .i64 j, .int .i64 0, .slice none 0 0] 24)) = w0 at *
  have c4 : w0.cell? ⟨P, 4, none⟩ = some (.pointer (some ⟨R, 0, none⟩)) := blk_cell H0.out.pool.blk 4
  obtain ⟨b0, b1, b2, b3, b4⟩ := HB0.out.cells
  have HD := Lib.hid H0.out.drew
  go_region_with (go_at_call 182; (with_reducible refine (KG.out _ HD.out).mono ?_); rintro e w1 ⟨rfl, hb1⟩; have HL1 := Lib.hid (HL0.out.drew.trans (hb1.mono HL0.out.size)); clear hb1)
  all_goals (
    clear c4 b0 b1 b2 b3 b4
    go_wp2_with (go_at_call 79; (with_reducible refine (KM.out _).mono ?_); rintro e w2 ⟨rfl, rfl⟩)
    exact ⟨rfl, rfl, HL1.out⟩)
end Go.Proofs.YtjohhjdicbeojaaGreatDoor.Vh
