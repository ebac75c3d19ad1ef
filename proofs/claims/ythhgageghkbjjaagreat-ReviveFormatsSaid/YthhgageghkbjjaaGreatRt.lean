/- The walks of Counts, Free, where nothing is. -/
import Derived.Test.YthhgageghkbjjaaGreatRs
namespace Go.Proofs.YthhgageghkbjjaaGreat.Rt
open Go.RowKit Go.Proofs.YthhgageghkbjjaaGreat.Ra Go.Proofs.YthhgageghkbjjaaGreat.Rj Go.Proofs.YthhgageghkbjjaaGreat.Rl Go.Proofs.YthhgageghkbjjaaGreat.Rn Go.Proofs.YthhgageghkbjjaaGreat.Ro Go.Proofs.YthhgageghkbjjaaGreat.Rp Go.Proofs.YthhgageghkbjjaaGreat.Rq Go.Proofs.YthhgageghkbjjaaGreat.Rr Go.Proofs.YthhgageghkbjjaaGreat.Rs
set_option maxRecDepth 8000

theorem info_int : (Tryz.prog.info? 3).map (fun i => (i.zero, i.size, i.bytes)) = some (some (.int .i64 0), 1, 8) := by kernel_rfl
theorem make_ints (n : Nat) (h1 : n ≤ 24) (u : World) : (Instr.makeSlice 49 (.int .i64 (n : Int)) (.int .i64 (n : Int))).run Tryz.prog u = .ok (.slice (some ⟨u.heap.size, 0, none⟩) n n) (u.alloc (.cells (intVals (List.replicate n 0)).toArray 3)) := by
  obtain ⟨i0, hi, hz0, hz1, hz2⟩ := info_parts info_int
  have := run_makeSlice (P := Tryz.prog) u 49 3 i0 _ Tryz.underlying49 hi hz0 .i64 .i64 (n : Int) (n : Int) (by omega) (Int.le_refl _) (by rw [hz1, Int.toNat_natCast]; omega) (by rw [hz2]; omega) (by omega)
  rw [this, Int.toNat_natCast, hz1]
  show _ = Result.ok _ (u.alloc (.cells _ _))
  refine congrArg (fun c => Result.ok _ (u.alloc (Obj.cells c 3))) ?_
  unfold intVals
  rw [List.map_replicate]
  apply Array.ext
  · simp [madeCells]
  · intro i h1 h2
    have e : (Value.int IntKind.i64 0).cells = #[.int .i64 0] := rfl
    simp [madeCells, e, Nat.mod_one]

set_option maxHeartbeats 4000000 in
theorem counts_c (s : Nat) (b : Int) (hm : MayP s b) (w : World) : Calls Tryz.prog 49 #[.agg emptyCells, .agg #[.int .i64 (s : Int), .int .i64 b]] w fun e w' => ∃ g, e = .returned (.tuple #[.slice (some ⟨g, 0, none⟩) s s, .int .i64 0]) ∧ w'.heap[g]? = some (.cells (intVals (List.replicate s 0)).toArray 3 (0, 0)) ∧ Below w.heap.size w w' := by
  have H0 := Lib.hid (Boxes.start (s : Int) b w)
  have KW := Lib.hid (fun (W : World) => within_c (s : Int) b hm W)
  have KO := Lib.hid (fun (W : World) => owners_c W)
  have hmk := make_ints s (by have := hm.2.1; omega)
  have hs24 : s ≤ 24 := by have := hm.2.1; omega
  clear hm
  go_enter Tryz.func49, Tryz.ntmps49
  go_upto_region 1 with fail
  generalize ((w.alloc (.cells emptyCells 30)).alloc (.cells #[.int .i64 (s : Int), .int .i64 b] 23)) = w0 at *
  obtain ⟨p0, p1⟩ := H0.out.plat
  go_wp2_with (first
    | (refine wpList_load_row rfl 30 (.tmp 2) rfl w.heap.size rfl _ emptyCells _ _ H0.out.1 Tryz.underlying30 rfl sizeE' ?_)
    | (go_at_call 46; (with_reducible refine (KW.out _).mono ?_); rintro e w1 ⟨rfl, hb1⟩; have HX1 := Lib.hid (H0.out.later hb1); obtain ⟨q0, q1⟩ := HX1.out.plat; have HX2 := Lib.hid (HX1.out.later ((Below.refl _ _).alloc (Nat.le_refl _) (.cells (intVals (List.replicate s 0)).toArray 3))); have HGB := Lib.hid (blk_new w1 (intVals (List.replicate s 0)).toArray 3); clear hb1)
    | (refine wpList_load_row rfl 30 (.tmp 2) rfl w.heap.size rfl _ emptyCells _ _ HX2.out.1 Tryz.underlying30 rfl sizeE' ?_)
    | (go_at_call 77; (with_reducible refine (KO.out _).mono ?_); rintro e w3 ⟨rfl, hb3⟩; have HX3 := Lib.hid (HX2.out.later hb3); have HG3 := Lib.hid (blk_below HGB.out hb3 (lt_of_block HGB.out)); clear hb3))
  clear hmk
  go_loopg [12, 30] (1) (fun gg _ s30 wr => s30 = .int .i64 0 ∧ gg = 1 ∧ wr = w3)
  case atStart => exact ⟨rfl, rfl, rfl⟩
  case round =>
    obtain ⟨rfl, _, rfl⟩ := hrel
    go_wp2
    refine bodyPost_ret (v := .tuple #[.slice (some ⟨w1.heap.size, 0, none⟩) s s, .int .i64 0]) (by simp [results, Tryz.results49, go_sem]) rfl ⟨_, rfl, HG3.out, HX3.out.2.2⟩

theorem below_grown {B e sz n : Nat} {w w' : World} {v : Value} {xs : List Value} (h : w.ownsRow B e sz v n xs) (hB : B ≤ w.heap.size) (hg : w.grownBy w' v.ownBlock) : Below B w w' := by
  refine ⟨hg.os, hg.tape, hg.output, hg.size, fun k hk => hg.block k (by omega) (fun e => ?_)⟩
  rcases h.2 with ⟨hv, _⟩ | ⟨g, cap, cur, hv, hgB, _⟩
  · rw [hv] at e; cases e
  · rw [hv] at e
    obtain rfl := Option.some.inj e
    omega

set_option maxHeartbeats 4000000 in
theorem free_c (s : Nat) (b : Int) (hm : MayP s b) (w : World) : Calls Tryz.prog 23 #[.agg emptyCells, .agg #[.int .i64 (s : Int), .int .i64 b], .slice none 0 0] w fun e w' => ∃ p c, e = .returned (.tuple #[.slice p s c, .int .i64 0]) ∧ Below w.heap.size w w' := by
  have H0 := Lib.hid (Boxes.start (s : Int) b w)
  have KC := Lib.hid (fun (W : World) => counts_c s b hm W)
  have KN := Lib.hid (fun (x : Int) (W : World) => contains_none x W)
  have hs24 : s ≤ 24 := by have := hm.2.1; omega
  obtain ⟨i0, hi, hz0, hz1, hz2⟩ := info_parts info_int
  have HI := Lib.hid hi
  have HZ0 := Lib.hid hz0
  have HZ1 := Lib.hid hz1
  have HZ2 := Lib.hid hz2
  clear hm hi hz0 hz1 hz2
  go_enter Tryz.func23, Tryz.ntmps23
  go_upto_region 1 with fail
  generalize ((w.alloc (.cells emptyCells 30)).alloc (.cells #[.int .i64 (s : Int), .int .i64 b] 23)) = w0 at *
  obtain ⟨p0, p1⟩ := H0.out.plat
  go_wp2_with (first
    | (refine wpList_load_row rfl 30 (.tmp 3) rfl w.heap.size rfl _ emptyCells _ _ H0.out.1 Tryz.underlying30 rfl sizeE' ?_)
    | (go_at_call 49; (with_reducible refine (KC.out _).mono ?_); rintro e w1 ⟨g, rfl, hg1, hb1⟩; have HX1 := Lib.hid (H0.out.later hb1); have HG1 := Lib.hid hg1; clear hb1 hg1))
  go_loopg [10, 11, 12, 24] (s + 1) (fun gg s10 _ _ s24 wr => ∃ (j : Nat) (xs : List Value), j ≤ s ∧ s - j < gg ∧ s24 = .int .i64 (j : Int) ∧ Hid (wr.ownsRow w1.heap.size 3 1 s10 j xs ∧ Below w1.heap.size w1 wr))
  case atStart => exact ⟨0, [], by omega, by omega, rfl, Lib.hid ⟨World.ownsRow_nil _ _ _ _, Below.refl _ _⟩⟩
  case round =>
    obtain ⟨j, xs, hj, hgg, rfl, HR⟩ := hrel
    by_cases hlt : j < s
    · have hil : (j : Int) < (s : Int) := by omega
      have cj : wr.cell? ⟨g, j, none⟩ = some (.int .i64 0) := by
        rw [blk_cell (blk_below HG1.out HR.out.2 (lt_of_block HG1.out)), ← Array.getElem?_toList, List.toList_toArray]
        unfold intVals
        rw [List.getElem?_map, List.getElem?_replicate, if_pos hlt]
        rfl
      have OWR := Lib.hid HR.out.1
      have hbr := HR.out.2.size
      have h63 : Hid (j + 1 ≤ maxLen) := Lib.hid (by unfold maxLen; omega)
      have hbs : Hid ((j + 1) * 8 ≤ 140737488355328) := Lib.hid (by omega)
      go_wp2_with (first
        | (go_at_call 36; (with_reducible refine (KN.out _ _).mono ?_); rintro e w2 ⟨rfl, rfl⟩)
        | (at_builtin; go_loud (refine wpList_append_lies _ rfl _ _ 49 rfl w1.heap.size 3 i0 (.int .i64 0) 1 8 Tryz.underlying49 HI.out HZ0.out HZ1.out HZ2.out rfl (by decide) _ j xs rfl (OWR.out.alloc _) ⟨wr.heap.size, 0, none⟩ 1 1 [.int .i64 (j : Int)] rfl rfl (cell_one_new _ _ _) (by simp [Value.oneCell']) (by decide) h63.out hbs.out (by rw [sz_alloc]; exact Nat.le_trans hbr (Nat.le_succ _)) _ rfl ?_)))
      intro g3 cap3 w6 hown hgrow hat _
      have HN : Hid (w6.ownsRow w1.heap.size 3 1 (.slice (some ⟨g3, 0, none⟩) (j + 1) cap3) (j + 1) (xs ++ [.int .i64 (j : Int)]) ∧ Below w1.heap.size w1 w6) := Lib.hid ⟨hown, (HR.out.2.trans (((Below.refl _ _).alloc (Nat.le_refl _) _).mono hbr)).trans (below_grown (OWR.out.alloc _) (by rw [sz_alloc]; omega) hgrow)⟩
      clear hown hgrow hat cj
      go_wp2
      go_roundg (s - (j + 1) + 1)
      case measure => omega
      case rel => exact ⟨j + 1, _, by omega, by omega, by go_num, HN⟩
    · have hil : ¬ (j : Int) < (s : Int) := by omega
      obtain rfl : j = s := by omega
      obtain ⟨p, c, hv⟩ : ∃ p c, u10 = .slice p j c := by
        rcases HR.out.1.2 with ⟨hv, h0⟩ | ⟨g, cap, cur, hv, _⟩
        · exact ⟨none, 0, by rw [hv, h0]⟩
        · exact ⟨_, _, hv⟩
      subst hv
      go_wp2
      refine bodyPost_ret (v := .tuple #[.slice p j c, .int .i64 0]) (by simp [results, Tryz.results23, go_sem]) rfl ?_
      exact ⟨⟨p, c, rfl⟩, HX1.out.2.2.trans (HR.out.2.mono HX1.out.2.2.size)⟩
end Go.Proofs.YthhgageghkbjjaaGreat.Rt
