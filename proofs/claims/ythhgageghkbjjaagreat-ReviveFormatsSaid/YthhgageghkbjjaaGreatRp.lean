/- The walk of delta.Apply, where nothing is and nothing comes. -/
import Derived.Test.YthhgageghkbjjaaGreatRo
import Derived.Laws.ResultCell
namespace Go.Proofs.YthhgageghkbjjaaGreat.Rp
open Go.RowKit Go.Proofs.YthhgageghkbjjaaGreat.Ra Go.Proofs.YthhgageghkbjjaaGreat.Rj Go.Proofs.YthhgageghkbjjaaGreat.Rl Go.Proofs.YthhgageghkbjjaaGreat.Rn Go.Proofs.YthhgageghkbjjaaGreat.Ro
set_option maxRecDepth 8000

theorem emptyE : emptyCells = #[.int .i64 0, .int .i64 0, .int .i64 0, .int .i64 0, .int .i64 0, .int .i64 0, .int .i64 0, .int .i64 0, .int .i64 0, .int .i64 0, .int .i64 0, .int .i64 0, .int .i64 0, .int .i64 0, .int .i64 0, .int .i64 0, .slice none 0 0, .slice none 0 0, .slice none 0 0, .slice none 0 0, .slice none 0 0, .slice none 0 0, .slice none 0 0, .slice none 0 0] := rfl
theorem sizeE' : (Tryz.prog.info? 30).map (·.size) = some emptyCells.size := sizeE
theorem sizeEl : (Tryz.prog.info? 30).map (·.size) = some emptyCells.toList.length := sizeE
theorem oneE' : ∀ v ∈ emptyCells.toList, v.oneCell' = true := oneE
theorem thereE' {w : World} {b : Nat} (h : w.heap[b]? = some (.cells emptyCells 30 (0, 0))) : w.there b 0 emptyCells.toList.length := thereE h
theorem setE' {w : World} {b : Nat} (h : w.heap[b]? = some (.cells emptyCells 30 (0, 0))) : (w.setCells b 0 emptyCells.toList).heap[b]? = some (.cells emptyCells 30 (0, 0)) := setE h
theorem setOther {w : World} {b c : Nat} {o : Obj} (h : w.heap[b]? = some o) (hne : b ≠ c) (l : List Value) : (w.setCells c 0 l).heap[b]? = some o := ((Ri.grownBy_setCells c l 0 w).block b (lt_of_block h) (fun e => hne (Option.some.inj e))).trans h
theorem soundE (w : World) : Calls Tryz.prog 43 #[.agg emptyCells] w fun e w' => e = .returned (.bool true) ∧ Below w.heap.size w w' := sound_c w
theorem cloneE (w : World) : Calls Tryz.prog 44 #[.agg emptyCells] w fun e w' => e = .returned (.agg emptyCells) ∧ Below w.heap.size w w' := clone_c w

theorem results_cell_two {P : Program} {fn : Func} {p u v : Tmp} {ty : TypeId} (h : fn.results = #[.cell p ty, .tmp u, .tmp v]) (tmps : Array Value) (w : World) (g : Nat) (t : TypeId) (cs : Array Value) (fr : Nat × Nat) (d : TypeDesc)
    (hp : tmps.getD p undef = .pointer (some ⟨g, 0, none⟩)) (hg : w.heap[g]? = some (.cells cs t fr))
    (hu : P.underlying ty = some d) (hd : (match d with | .struct _ | .array _ _ => true | _ => false) = true) (hi : (P.info? ty).map (·.size) = some cs.size) :
    (results fn tmps).run P w = .ok (.tuple #[.agg cs, tmps.getD u undef, tmps.getD v undef]) w := by
  have hp' : tmps[p]?.getD undef = .pointer (some ⟨g, 0, none⟩) := by simpa using hp
  simp [results, h, hp', asAddr, run_loadVar_row w g t ty cs fr d hg hu hd hi]

set_option maxHeartbeats 4000000 in
theorem apply_c (w : World) : Calls Tryz.prog 21 #[.agg emptyCells, .slice none 0 0] w fun e w' => e = .returned (.tuple #[.agg emptyCells, .int .i64 0, .int .i64 0]) ∧ Below w.heap.size w w' := by
  have KS := Lib.hid (fun (W : World) => soundE W)
  have KC := Lib.hid (fun (W : World) => cloneE W)
  have hb0 := blk_old (blk_new w emptyCells 30) (.cells emptyCells 30)
  have hb1 := blk_new (w.alloc (.cells emptyCells 30)) emptyCells 30
  rw [sz_alloc] at hb1
  have H0 : Hid (((w.alloc (.cells emptyCells 30)).alloc (.cells emptyCells 30)).heap[w.heap.size]? = some (.cells emptyCells 30 (0, 0)) ∧ ((w.alloc (.cells emptyCells 30)).alloc (.cells emptyCells 30)).heap[w.heap.size + 1]? = some (.cells emptyCells 30 (0, 0)) ∧ Below w.heap.size w ((w.alloc (.cells emptyCells 30)).alloc (.cells emptyCells 30))) := Lib.hid ⟨hb0, hb1, ((Below.refl _ _).alloc (Nat.le_refl _) _).alloc (by rw [sz_alloc]; omega) _⟩
  clear hb0 hb1
  have HS := Lib.hid sizeE'
  have HSL := Lib.hid sizeEl
  have HO := Lib.hid oneE'
  have HT := Lib.hid (fun (W : World) (b : Nat) h => thereE' (w := W) (b := b) h)
  have HSE := Lib.hid (fun (W : World) (b : Nat) h => setE' (w := W) (b := b) h)
  go_enter Tryz.func21, Tryz.ntmps21
  go_upto_region 1 with fail
  rw [show ((w.alloc (.cells emptyCells 30)).alloc (.cells #[.int .i64 0, .int .i64 0, .int .i64 0, .int .i64 0, .int .i64 0, .int .i64 0, .int .i64 0, .int .i64 0, .int .i64 0, .int .i64 0, .int .i64 0, .int .i64 0, .int .i64 0, .int .i64 0, .int .i64 0, .int .i64 0, .slice none 0 0, .slice none 0 0, .slice none 0 0, .slice none 0 0, .slice none 0 0, .slice none 0 0, .slice none 0 0, .slice none 0 0] 30)) = ((w.alloc (.cells emptyCells 30)).alloc (.cells emptyCells 30)) from rfl]
  generalize ((w.alloc (.cells emptyCells 30)).alloc (.cells emptyCells 30)) = w0 at *
  generalize hE : emptyCells = E at *
  have HE := Lib.hid hE
  clear hE
  have hlt0 : w.heap.size < w0.heap.size := lt_of_block H0.out.1
  have hlt1 : w.heap.size + 1 < w0.heap.size := lt_of_block H0.out.2.1
  have HLT0 := Lib.hid hlt0
  have HLT1 := Lib.hid hlt1
  clear hlt0 hlt1
  go_wp2_with (first
    | (refine wpList_load_row rfl 30 (.tmp 2) rfl w.heap.size rfl _ E _ _ H0.out.1 Tryz.underlying30 rfl HS.out ?_)
    | (refine wpList_load_row rfl 30 (.tmp 2) rfl w.heap.size rfl _ E _ _ HX1.out.1 Tryz.underlying30 rfl HS.out ?_)
    | (refine wpList_load_row rfl 30 (.tmp 2) rfl w.heap.size rfl _ E _ _ HX3.out.1 Tryz.underlying30 rfl HS.out ?_)
    | (go_at_call 43; (with_reducible refine (KS.out _).mono ?_); rintro e w1 ⟨rfl, hb1⟩; have HX1 : Hid (w1.heap[w.heap.size]? = some (.cells E 30 (0, 0)) ∧ w1.heap[w.heap.size + 1]? = some (.cells E 30 (0, 0)) ∧ Below w.heap.size w w1) := Lib.hid ⟨blk_below H0.out.1 hb1 HLT0.out, blk_below H0.out.2.1 hb1 HLT1.out, H0.out.2.2.trans (hb1.mono H0.out.2.2.size)⟩; clear hb1)
    | (go_at_call 44; (with_reducible refine (KC.out _).mono ?_); rintro e w2 ⟨rfl, hb2⟩; have HX2 : Hid (w2.heap[w.heap.size]? = some (.cells E 30 (0, 0)) ∧ w2.heap[w.heap.size + 1]? = some (.cells E 30 (0, 0)) ∧ Below w.heap.size w w2) := Lib.hid ⟨blk_below HX1.out.1 hb2 (lt_of_block HX1.out.1), blk_below HX1.out.2.1 hb2 (lt_of_block HX1.out.2.1), HX1.out.2.2.trans (hb2.mono HX1.out.2.2.size)⟩; clear hb2)
    | (refine wpList_store_named rfl 30 (.tmp 2) (.tmp 15) rfl w.heap.size 0 E.toList rfl rfl (HT.out _ _ HX2.out.1) HSL.out HO.out ?_; intro w3 hw3; have HX3 : Hid (w3.heap[w.heap.size]? = some (.cells E 30 (0, 0)) ∧ w3.heap[w.heap.size + 1]? = some (.cells E 30 (0, 0)) ∧ Below w.heap.size w w3) := Lib.hid (by rw [hw3]; exact ⟨HSE.out _ _ HX2.out.1, setOther HX2.out.2.1 (by omega) _, belowSet HX2.out.2.2 (Nat.le_refl _) (Nat.le_refl _) _⟩); clear hw3))
  go_loopg [18] (1) (fun gg s18 wr => s18 = .int .i64 0 ∧ gg = 1 ∧ wr = w3)
  case atStart => exact ⟨rfl, rfl, rfl⟩
  case round =>
    obtain ⟨rfl, _, rfl⟩ := hrel
    go_wp2_with (first
      | (refine wpList_load_row rfl 30 (.tmp 2) rfl w.heap.size rfl _ E _ _ HX3.out.1 Tryz.underlying30 rfl HS.out ?_)
      | (refine wpList_store_named rfl 30 (.tmp 4) (.tmp 31) rfl (w.heap.size + 1) 0 E.toList rfl rfl (HT.out _ _ HX3.out.2.1) HSL.out HO.out ?_; intro w4 hw4; have HX4 : Hid (w4.heap[w.heap.size + 1]? = some (.cells E 30 (0, 0)) ∧ Below w.heap.size w w4) := Lib.hid (by rw [hw4]; exact ⟨HSE.out _ _ HX3.out.2.1, belowSet HX3.out.2.2 (Nat.le_refl _) (by omega) _⟩); clear hw4))
    refine bodyPost_ret (results_cell_two rfl _ w4 (w.heap.size + 1) _ _ _ _ rfl HX4.out.1 Tryz.underlying30 rfl HS.out) rfl ?_
    refine ⟨?_, HX4.out.2⟩
    simp [HE.out]
end Go.Proofs.YthhgageghkbjjaaGreat.Rp
