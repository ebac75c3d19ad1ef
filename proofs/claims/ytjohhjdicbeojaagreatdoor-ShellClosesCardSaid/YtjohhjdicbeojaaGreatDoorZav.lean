/- Texts joined: Uc Vc Vd Va Ru. -/
import Derived.Deep.Onto
import Derived.Deep.WholeRow
import Derived.Test.YtjohhjdicbeojaaGreatDoorZal
import Derived.Test.YtjohhjdicbeojaaGreatDoorZat
import Derived.Test.YtjohhjdicbeojaaGreatDoorZau
namespace Go.Proofs.YtjohhjdicbeojaaGreatDoor.Uc
open Go.RowKit Go.Proofs.YtjohhjdicbeojaaGreatDoor.Ra Go.Proofs.YtjohhjdicbeojaaGreatDoor.Rc Go.Proofs.YtjohhjdicbeojaaGreatDoor.Rh Go.Proofs.YtjohhjdicbeojaaGreatDoor.Rj Go.Proofs.YtjohhjdicbeojaaGreatDoor.Rl Go.Proofs.YtjohhjdicbeojaaGreatDoor.Rn Go.Proofs.YtjohhjdicbeojaaGreatDoor.Ro Go.Proofs.YtjohhjdicbeojaaGreatDoor.Rp Go.Proofs.YtjohhjdicbeojaaGreatDoor.Rq Go.Proofs.YtjohhjdicbeojaaGreatDoor.Ua Go.Proofs.YtjohhjdicbeojaaGreatDoor.Ub
set_option maxRecDepth 8000
theorem index_place0 (g c : Nat) (W : World) : (Instr.index 94 (.agg #[.slice (some ⟨g, 0, none⟩) 3 c, .slice none 0 0, .slice none 0 0, .slice none 0 0, .slice none 0 0, .slice none 0 0, .slice none 0 0, .slice none 0 0]) (.int .i64 0)).run Tryz.prog W = .ok (.slice (some ⟨g, 0, none⟩) 3 c) W := by rfl
theorem index_placeN (g c : Nat) (j : Int) (h : 1 ≤ j ∧ j < 8) (W : World) : (Instr.index 94 (.agg #[.slice (some ⟨g, 0, none⟩) 3 c, .slice none 0 0, .slice none 0 0, .slice none 0 0, .slice none 0 0, .slice none 0 0, .slice none 0 0, .slice none 0 0]) (.int .i64 j)).run Tryz.prog W = .ok (.slice none 0 0) W := by
  have hcase : j = 1 ∨ j = 2 ∨ j = 3 ∨ j = 4 ∨ j = 5 ∨ j = 6 ∨ j = 7 := by omega
  rcases hcase with rfl | rfl | rfl | rfl | rfl | rfl | rfl <;> rfl
theorem rangeP {w : World} {b g c : Nat} (h : w.heap[b]? = some (.cells (volCells (.slice (some ⟨g, 0, none⟩) 3 c)) 96 (0, 0))) : w.rangeAt b 16 [.slice (some ⟨g, 0, none⟩) 3 c, .slice none 0 0, .slice none 0 0, .slice none 0 0, .slice none 0 0, .slice none 0 0, .slice none 0 0, .slice none 0 0] := fun k v hk => by
  have hk8 : k < 8 := (List.getElem?_eq_some_iff.1 hk).1
  rw [blk_cell h]
  have hcase : k = 0 ∨ k = 1 ∨ k = 2 ∨ k = 3 ∨ k = 4 ∨ k = 5 ∨ k = 6 ∨ k = 7 := by omega
  rcases hcase with rfl | rfl | rfl | rfl | rfl | rfl | rfl | rfl <;> exact hk
set_option maxHeartbeats 4000000 in
theorem all_c (g c : Nat) (w : World) (h3 : Three w g) : Calls Tryz.prog 111 #[.agg (volCells (.slice (some ⟨g, 0, none⟩) 3 c))] w fun e w' => ∃ m, e = .returned (.map (some m)) ∧ w.heap.size ≤ m ∧ w'.heap[m]? = some (.map #[] 0) ∧ Below w.heap.size w w' := by
  have hmk := fun (W : World) => run_makeMap_plain (P := Tryz.prog) (w := W) 212
  have hb0 := blk_old (blk_new w (volCells (.slice (some ⟨g, 0, none⟩) 3 c)) 96) (.map #[] 0)
  have HR := Lib.hid (rangeP hb0)
  have hb1 : ((w.alloc (.cells (volCells (.slice (some ⟨g, 0, none⟩) 3 c)) 96)).alloc (.map #[] 0)).heap[w.heap.size + 1]? = some (.map #[] 0) := by
    have := heap_alloc_new (w.alloc (.cells (volCells (.slice (some ⟨g, 0, none⟩) 3 c)) 96)) (.map #[] 0)
    rwa [sz_alloc] at this
  have hbb : Below w.heap.size w ((w.alloc (.cells (volCells (.slice (some ⟨g, 0, none⟩) 3 c)) 96)).alloc (.map #[] 0)) := ((Below.refl _ _).alloc (Nat.le_refl _) _).alloc (by rw [sz_alloc]; omega) _
  have H0 : Hid (((w.alloc (.cells (volCells (.slice (some ⟨g, 0, none⟩) 3 c)) 96)).alloc (.map #[] 0)).heap[w.heap.size + 1]? = some (.map #[] 0) ∧ Below w.heap.size w ((w.alloc (.cells (volCells (.slice (some ⟨g, 0, none⟩) 3 c)) 96)).alloc (.map #[] 0))) := Lib.hid ⟨hb1, hbb⟩
  have H3 := Lib.hid (h3.later hbb)
  have HSP := Lib.hid sizeP
  have hneq := neq_none
  clear hb0 hb1 hbb h3
  go_enter Tryz.func111, Tryz.ntmps111
  go_upto_region 2 with fail
  generalize ((w.alloc (.cells (volCells (.slice (some ⟨g, 0, none⟩) 3 c)) 96)).alloc (.map #[] 0)) = w0 at *
  clear hmk
  have c0 := H3.out 0 (by decide)
  have c1 := H3.out 1 (by decide)
  have c2 := H3.out 2 (by decide)
  go_wp2_with (refine wpList_load_mid rfl 94 (.tmp 9) rfl w.heap.size 16 rfl _ _ HR.out Tryz.underlying94 rfl HSP.out ?_)
  go_loopg [4, 5, 11] (9) (fun gg _ _ s11 wr => ∃ j : Int, 0 ≤ j ∧ j ≤ 8 ∧ 8 - j < gg ∧ s11 = .int .i64 j ∧ wr = w0)
  case atStart => exact ⟨0, by omega, by omega, by omega, rfl, rfl⟩
  case round =>
    obtain ⟨j, hj0, hj, hgg, rfl, rfl⟩ := hrel
    by_cases hil : j < 8
    · by_cases h0 : j = 0
      · subst h0
        have hix := index_place0 g c
        go_wp2
        go_loopg [6, 7, 17] (4) (fun gg _ _ s17 wr2 => ∃ k : Nat, k ≤ 3 ∧ 3 - k < gg ∧ s17 = .int .i64 (k : Int) ∧ wr2 = wr)
        case atStart => exact ⟨0, by omega, by omega, rfl, rfl⟩
        case round =>
          obtain ⟨k, hk, hgg2, rfl, rfl⟩ := hrel
          clear hix
          rcases (by omega : k = 0 ∨ k = 1 ∨ k = 2 ∨ k = 3) with rfl | rfl | rfl | rfl
          · go_wp2
            go_roundg (3)
            case measure => omega
            case rel => exact ⟨1, by omega, by omega, by go_num, rfl⟩
          · go_wp2
            go_roundg (2)
            case measure => omega
            case rel => exact ⟨2, by omega, by omega, by go_num, rfl⟩
          · go_wp2
            go_roundg (1)
            case measure => omega
            case rel => exact ⟨3, by omega, by omega, by go_num, rfl⟩
          · go_wp2
            go_roundg (8)
            case measure => omega
            case rel => exact ⟨1, by omega, by omega, by omega, by go_num, rfl⟩
      · have hix := index_placeN g c j ⟨by omega, hil⟩
        go_wp2
        go_loopg [6, 7, 17] (1) (fun gg _ _ s17 wr2 => s17 = .int .i64 0 ∧ gg = 1 ∧ wr2 = wr)
        case atStart => exact ⟨rfl, rfl, rfl⟩
        case round =>
          obtain ⟨rfl, _, rfl⟩ := hrel
          clear hix
          go_wp2
          go_roundg (8 - j).toNat
          case measure => omega
          case rel => exact ⟨j + 1, by omega, by omega, by omega, by go_num, rfl⟩
    · go_wp2
      go_ret
      exact ⟨_, rfl, by omega, H0.out.1, H0.out.2⟩
end Go.Proofs.YtjohhjdicbeojaaGreatDoor.Uc
namespace Go.Proofs.YtjohhjdicbeojaaGreatDoor.Vc
open Go.RowKit Go.Proofs.YtjohhjdicbeojaaGreatDoor.Ra Go.Proofs.YtjohhjdicbeojaaGreatDoor.Rj Go.Proofs.YtjohhjdicbeojaaGreatDoor.Rn Go.Proofs.YtjohhjdicbeojaaGreatDoor.Ua Go.Proofs.YtjohhjdicbeojaaGreatDoor.Ub
set_option maxRecDepth 8000
/-- A table of three blocks without places. -/
structure TabAt (w : World) (T : Nat) : Prop where
  tab : ∃ Q, w.heap[T]? = some (.cells #[.int .i64 3, .slice (some ⟨Q, 0, none⟩) 1 1] 223 (0, 0)) ∧ w.heap[Q]? = some (.cells #[.pointer none] 289 (0, 0))
theorem TabAt.below {w w' : World} {T : Nat} (h : TabAt w T) (hb : Below w.heap.size w w') : TabAt w' T := by
  obtain ⟨Q, h1, h2⟩ := h.tab
  exact ⟨Q, blk_below h1 hb (lt_of_block h1), blk_below h2 hb (lt_of_block h2)⟩
theorem TabAt.lt {w : World} {T : Nat} (h : TabAt w T) : T < w.heap.size := by
  obtain ⟨Q, h1, h2⟩ := h.tab
  exact lt_of_block h1
theorem info_page : (Tryz.prog.info? 289).map (fun i => (i.zero, i.size, i.bytes)) = some (some (.pointer none), 1, 8) := by kernel_rfl
theorem make_page (u : World) : (Instr.makeSlice 221 (.int .i64 1) (.int .i64 1)).run Tryz.prog u = .ok (.slice (some ⟨u.heap.size, 0, none⟩) 1 1) (u.alloc (.cells #[.pointer none] 289)) := by
  obtain ⟨i0, hi, hz0, hz1, hz2⟩ := info_parts info_page
  have := run_makeSlice (P := Tryz.prog) u 221 289 i0 _ Tryz.underlying221 hi hz0 .i64 .i64 1 1 (by omega) (Int.le_refl _) (by rw [hz1]; decide) (by rw [hz2]; decide) (by decide)
  rw [this, hz1]
  show _ = Result.ok _ (u.alloc (.cells _ _))
  exact congrArg (fun c => Result.ok (Value.slice (some ⟨u.heap.size, 0, none⟩) 1 1) (u.alloc (Obj.cells c 289))) (by kernel_rfl)
theorem tnew_c (w : World) : Calls Tryz.prog 65 #[.int .i64 3] w fun e w' => ∃ T, e = .returned (.tuple #[.pointer (some ⟨T, 0, none⟩), .int .i64 0]) ∧ w.heap.size ≤ T ∧ TabAt w' T ∧ Below w.heap.size w w' := by
  have hmk := make_page
  have h2 := blk_new (w.alloc (.cells #[.pointer none] 289)) #[.int .i64 3, .slice (some ⟨w.heap.size, 0, none⟩) 1 1] 223
  rw [sz_alloc] at h2
  go_enter Tryz.func65, Tryz.ntmps65
  go_wp2
  go_ret2
  exact ⟨_, rfl, Nat.le_succ _, ⟨w.heap.size, h2, blk_old (blk_new _ _ _) _⟩, ((Below.refl _ _).alloc (Nat.le_refl _) _).alloc (by rw [sz_alloc]; exact Nat.le_succ _) _⟩
theorem tsize_nil (w : World) : Calls Tryz.prog 227 #[.pointer none] w fun e w' => e = .returned (.int .i64 0) ∧ w = w' := by
  go_enter Tryz.func227, Tryz.ntmps227
  go_wp2
  go_ret
  exact ⟨rfl, rfl⟩
theorem tsize_c {w : World} {T : Nat} (h : TabAt w T) : Calls Tryz.prog 227 #[.pointer (some ⟨T, 0, none⟩)] w fun e w' => e = .returned (.int .i64 3) ∧ w = w' := by
  obtain ⟨Q, h1, h2⟩ := h.tab
  have c0 : w.cell? ⟨T, 0, none⟩ = some (.int .i64 3) := blk_cell h1 0
  go_enter Tryz.func227, Tryz.ntmps227
  go_wp2
  go_ret
  exact ⟨rfl, rfl⟩
theorem tthere_c {w : World} {T : Nat} (h : TabAt w T) (j : Int) (h0 : 0 ≤ j) : Calls Tryz.prog 117 #[.pointer (some ⟨T, 0, none⟩), .int .i64 j] w fun e w' => e = .returned (.int .i64 (if j < 3 then 0 else 5)) ∧ w = w' := by
  obtain ⟨Q, h1, h2⟩ := h.tab
  have c0 : w.cell? ⟨T, 0, none⟩ = some (.int .i64 3) := blk_cell h1 0
  have g0 : ¬ j < 0 := by omega
  by_cases hj : j < 3
  · have g1 : ¬ (3 ≤ j) := by omega
    rw [if_pos hj]
    go_enter Tryz.func117, Tryz.ntmps117
    go_wp2
    go_ret
    exact ⟨rfl, rfl⟩
  · have g1 : 3 ≤ j := by omega
    rw [if_neg hj]
    go_enter Tryz.func117, Tryz.ntmps117
    go_wp2
    go_ret
    exact ⟨rfl, rfl⟩
theorem tat_c {w : World} {T : Nat} (h : TabAt w T) (j : Int) (h0 : 0 ≤ j) (h3 : j < 3) : Calls Tryz.prog 174 #[.pointer (some ⟨T, 0, none⟩), .int .i64 j] w fun e w' => e = .returned (.complex .f64 13830554455654793216 0) ∧ w = w' := by
  obtain ⟨Q, h1, h2⟩ := h.tab
  have c0 : w.cell? ⟨T, 1, none⟩ = some (.slice (some ⟨Q, 0, none⟩) 1 1) := blk_cell h1 1
  have c1 : w.cell? ⟨Q, 0, none⟩ = some (.pointer none) := blk_cell h2 0
  obtain rfl | rfl | rfl : j = 0 ∨ j = 1 ∨ j = 2 := by omega
  all_goals (
    go_enter Tryz.func174, Tryz.ntmps174
    go_wp2
    go_ret
    exact ⟨rfl, rfl⟩)
theorem tget_c {w : World} {T : Nat} (h : TabAt w T) (j : Int) (h0 : 0 ≤ j) : Calls Tryz.prog 225 #[.pointer (some ⟨T, 0, none⟩), .int .i64 j] w fun e w' => e = .returned (.tuple #[.complex .f64 0 0, .bool false, .int .i64 (if j < 3 then 0 else 5)]) ∧ w = w' := by
  have KT := Lib.hid (tthere_c h j h0)
  have hne := neq_none
  by_cases hj : j < 3
  · have KA := Lib.hid (tat_c h j h0 hj)
    rw [if_pos hj] at KT ⊢
    go_enter Tryz.func225, Tryz.ntmps225
    go_wp2_with (first
      | (go_at_call 117; (with_reducible refine KT.out.mono ?_); rintro e w1 ⟨rfl, rfl⟩)
      | (go_at_call 174; (with_reducible refine KA.out.mono ?_); rintro e w1 ⟨rfl, rfl⟩))
    refine bodyPost_ret (results_tmp3 rfl _ _ _) rfl ?_
    exact ⟨rfl, rfl⟩
  · rw [if_neg hj] at KT ⊢
    go_enter Tryz.func225, Tryz.ntmps225
    go_wp2_with (go_at_call 117; (with_reducible refine KT.out.mono ?_); rintro e w1 ⟨rfl, rfl⟩)
    refine bodyPost_ret (results_tmp3 rfl _ _ _) rfl ?_
    exact ⟨rfl, rfl⟩
theorem tall_nil (w : World) : Calls Tryz.prog 186 #[.pointer none] w fun e w' => e = .returned (.slice none 0 0) ∧ w = w' := by
  have KS := Lib.hid (fun (W : World) => tsize_nil W)
  go_enter Tryz.func186, Tryz.ntmps186
  go_wp2_with (go_at_call 227; (with_reducible refine (KS.out _).mono ?_); rintro e w1 ⟨rfl, rfl⟩)
  go_loopg [3, 4, 7] 1 (fun gg s3 _ s7 wr => s3 = .slice none 0 0 ∧ s7 = .int .i64 0 ∧ gg = 1 ∧ wr = w)
  case atStart => exact ⟨rfl, rfl, rfl, rfl⟩
  case round =>
    obtain ⟨rfl, rfl, _, rfl⟩ := hrel
    go_wp2
    go_ret
    exact ⟨rfl, rfl⟩
def reps (n : Nat) : List Value := List.replicate n (.complex .f64 13830554455654793216 0)
theorem reps_succ (n : Nat) : reps (n + 1) = reps n ++ [.complex .f64 13830554455654793216 0] := List.replicate_succ'
set_option maxHeartbeats 4000000 in
theorem tall_c {w : World} {T : Nat} (h : TabAt w T) : Calls Tryz.prog 186 #[.pointer (some ⟨T, 0, none⟩)] w fun e w' => ∃ g c, e = .returned (.slice (some ⟨g, 0, none⟩) 3 c) ∧ Three w' g ∧ w.heap.size ≤ g ∧ g < w'.heap.size ∧ Below w.heap.size w w' := by
  have KS := Lib.hid (tsize_c h)
  have KA := Lib.hid (fun (W : World) (hb : Below w.heap.size w W) (j : Int) (h0 : 0 ≤ j) (h3 : j < 3) => tat_c (h.below hb) j h0 h3)
  obtain ⟨i0, hi, hz0, hz1, hz2⟩ := info_parts info_cx
  have HI := Lib.hid hi
  have HZ0 := Lib.hid hz0
  have HZ1 := Lib.hid hz1
  have HZ2 := Lib.hid hz2
  clear h hi hz0 hz1 hz2
  go_enter Tryz.func186, Tryz.ntmps186
  go_wp2_with (go_at_call 227; (with_reducible refine KS.out.mono ?_); rintro e w1 ⟨rfl, rfl⟩)
  go_loopg [3, 4, 7] 4 (fun gg s3 _ s7 wr => ∃ j : Nat, j ≤ 3 ∧ 3 - j < gg ∧ s7 = .int .i64 (j : Int) ∧ Hid (wr.ownsRow w.heap.size 151 1 s3 j (reps j) ∧ Below w.heap.size w wr))
  case atStart => exact ⟨0, by omega, by omega, rfl, Lib.hid ⟨World.ownsRow_nil _ _ _ _, Below.refl _ _⟩⟩
  case round =>
    obtain ⟨j, hj, hgg, rfl, HR⟩ := hrel
    by_cases hlt : j < 3
    · have hil : (j : Int) < 3 := by omega
      have OWR := Lib.hid HR.out.1
      have hbr := HR.out.2.size
      have h63 : Hid (j + 1 ≤ maxLen) := Lib.hid (by unfold maxLen; omega)
      have hbs : Hid ((j + 1) * 16 ≤ 140737488355328) := Lib.hid (by omega)
      go_wp2_with (first
        | (go_at_call 174; (with_reducible refine (KA.out _ HR.out.2 _ (by omega) hil).mono ?_); rintro e w2 ⟨rfl, rfl⟩)
        | (at_builtin; go_loud (refine wpList_append_lies _ rfl _ _ 93 rfl w.heap.size 151 i0 (.complex .f64 0 0) 1 16 Tryz.underlying93 HI.out HZ0.out HZ1.out HZ2.out rfl (by decide) _ j (reps j) rfl (OWR.out.alloc _) ⟨wr.heap.size, 0, none⟩ 1 1 [.complex .f64 13830554455654793216 0] rfl rfl (cell_one_new _ _ _) (by simp [Value.oneCell']) (by decide) h63.out hbs.out (by rw [sz_alloc]; exact Nat.le_trans hbr (Nat.le_succ _)) _ rfl ?_)))
      intro g3 cap3 w6 hown hgrow hat _
      have HN : Hid (w6.ownsRow w.heap.size 151 1 (.slice (some ⟨g3, 0, none⟩) (j + 1) cap3) (j + 1) (reps (j + 1)) ∧ Below w.heap.size w w6) := Lib.hid ⟨by rw [reps_succ]; exact hown, (HR.out.2.trans (((Below.refl _ _).alloc (Nat.le_refl _) _).mono hbr)).trans (Rt.below_grown (OWR.out.alloc _) (by rw [sz_alloc]; omega) hgrow)⟩
      clear hown hgrow hat
      go_wp2
      go_roundg (3 - (j + 1) + 1)
      case measure => omega
      case rel => exact ⟨j + 1, by omega, by omega, by go_num, HN⟩
    · have hil : ¬ (j : Int) < 3 := by omega
      obtain rfl : j = 3 := by omega
      obtain ⟨g, cap, rfl, hg, hlt2⟩ := HR.out.1.form (by decide)
      go_wp2
      go_ret
      refine ⟨_, ⟨_, rfl⟩, fun k hk => ?_, hg, hlt2, HR.out.2⟩
      have := HR.out.1.cells (g := g) rfl k (.complex .f64 13830554455654793216 0) (by unfold reps; rw [List.getElem?_replicate, if_pos hk])
      rw [Addr.add_lit] at this
      simpa using this
end Go.Proofs.YtjohhjdicbeojaaGreatDoor.Vc
namespace Go.Proofs.YtjohhjdicbeojaaGreatDoor.Vd
open Go.RowKit Go.Proofs.YtjohhjdicbeojaaGreatDoor.Ra Go.Proofs.YtjohhjdicbeojaaGreatDoor.Rc Go.Proofs.YtjohhjdicbeojaaGreatDoor.Rj Go.Proofs.YtjohhjdicbeojaaGreatDoor.Rl Go.Proofs.YtjohhjdicbeojaaGreatDoor.Rn Go.Proofs.YtjohhjdicbeojaaGreatDoor.Ro Go.Proofs.YtjohhjdicbeojaaGreatDoor.Rp Go.Proofs.YtjohhjdicbeojaaGreatDoor.Rq Go.Proofs.YtjohhjdicbeojaaGreatDoor.Ua Go.Proofs.YtjohhjdicbeojaaGreatDoor.Ub Go.Proofs.YtjohhjdicbeojaaGreatDoor.Vc
set_option maxRecDepth 8000
def rollC (k s : Int) (t : Value) : Array Value := #[.int .i64 k, .int .i64 s, .int .i64 0, .int .i64 0, .int .i64 0, .int .i64 0, .int .i64 0, .int .i64 0, .int .i64 0, .int .i64 0, .int .i64 0, .int .i64 0, .int .i64 0, .int .i64 0, .int .i64 0, .int .i64 0, t, .pointer none, .pointer none, .pointer none, .pointer none, .pointer none, .pointer none, .pointer none]
def setL (cs : Array Value) : Nat → List Value → Array Value
  | _, [] => cs
  | o, v :: r => setL (cs.setIfInBounds o v) (o + 1) r
theorem setCells_blk {b : Nat} {t : TypeId} : ∀ (l : List Value) (o : Nat) {w : World} {cs : Array Value}, w.heap[b]? = some (.cells cs t (0, 0)) → (w.setCells b o l).heap[b]? = some (.cells (setL cs o l) t (0, 0))
  | [], _, _, _, h => h
  | v :: r, o, _, _, h => setCells_blk r (o + 1) (blk_set h o v)
theorem setCells_other {b x : Nat} {ob : Obj} (hne : x ≠ b) : ∀ (l : List Value) (o : Nat) {w : World}, w.heap[x]? = some ob → (w.setCells b o l).heap[x]? = some ob
  | [], _, _, h => h
  | v :: r, o, _, h => setCells_other hne r (o + 1) (blk_set_other h hne v)
theorem setCells_below {b B : Nat} (hb : B ≤ b) : ∀ (l : List Value) (o : Nat) {a w : World}, Below B a w → Below B a (w.setCells b o l)
  | [], _, _, _, h => h
  | v :: r, o, _, _, h => setCells_below hb r (o + 1) (h.setCell hb v)
theorem there_at {w : World} {b : Nat} {cs : Array Value} {t : TypeId} (h : w.heap[b]? = some (.cells cs t (0, 0))) (o n : Nat) (hs : o + n ≤ cs.size) : w.there b o n := fun k hk => by
  rw [blk_cell h, blk_free h]
  exact ⟨by rw [Array.getElem?_eq_getElem (by omega)]; rfl, rfl⟩
theorem range_at {w : World} {b : Nat} {cs : Array Value} {t : TypeId} {fz : Nat × Nat} (h : w.heap[b]? = some (.cells cs t fz)) (o : Nat) (l : List Value) (hl : (cs.toList.drop o).take l.length = l) : w.rangeAt b o l := fun k v hk => by
  have hk' : k < l.length := (List.getElem?_eq_some_iff.1 hk).1
  rw [blk_cell h, ← Array.getElem?_toList]
  rw [← hl, List.getElem?_take, if_pos hk', List.getElem?_drop] at hk
  exact hk
/-- A roll. -/
structure RollAt (w : World) (R : Nat) (k s : Int) (t : Value) : Prop where
  blk : w.heap[R]? = some (.cells (rollC k s t) 148 (0, 0))
theorem RollAt.below {w w' : World} {R : Nat} {k s : Int} {t : Value} (h : RollAt w R k s t) (hb : Below w.heap.size w w') : RollAt w' R k s t := ⟨blk_below h.blk hb (lt_of_block h.blk)⟩
theorem sizeEn : (Tryz.prog.info? 92).map (·.size) = some 16 := by kernel_rfl
theorem sizePl : (Tryz.prog.info? 94).map (·.size) = some 8 := by kernel_rfl
theorem sizeTb : (Tryz.prog.info? 146).map (·.size) = some 8 := by kernel_rfl
theorem entry_one (k s : Int) : ∀ v ∈ [.int .i64 k, .int .i64 s, .int .i64 0, .int .i64 0, .int .i64 0, .int .i64 0, .int .i64 0, .int .i64 0, .int .i64 0, .int .i64 0, .int .i64 0, .int .i64 0, .int .i64 0, .int .i64 0, .int .i64 0, .int .i64 0], Value.oneCell' v = true := by
  intro v hv
  simp only [List.mem_cons, List.not_mem_nil, or_false] at hv
  rcases hv with rfl | rfl | rfl | rfl | rfl | rfl | rfl | rfl | rfl | rfl | rfl | rfl | rfl | rfl | rfl | rfl <;> rfl
theorem rnew_c (w : World) : Calls Tryz.prog 64 #[] w fun e w' => e = .returned (.pointer (some ⟨w.heap.size, 0, none⟩)) ∧ RollAt w' w.heap.size 0 0 (.pointer none) ∧ Below w.heap.size w w' := by
  go_enter Tryz.func64, Tryz.ntmps64
  go_wp2
  go_ret
  exact ⟨rfl, ⟨blk_new _ _ _⟩, (Below.refl _ _).alloc (Nat.le_refl _) _⟩
theorem index_nil8 (j : Int) (h : 0 ≤ j ∧ j < 8) (W : World) : (Instr.index 94 (.agg #[.slice none 0 0, .slice none 0 0, .slice none 0 0, .slice none 0 0, .slice none 0 0, .slice none 0 0, .slice none 0 0, .slice none 0 0]) (.int .i64 j)).run Tryz.prog W = .ok (.slice none 0 0) W := by
  have hcase : j = 0 ∨ j = 1 ∨ j = 2 ∨ j = 3 ∨ j = 4 ∨ j = 5 ∨ j = 6 ∨ j = 7 := by omega
  rcases hcase with rfl | rfl | rfl | rfl | rfl | rfl | rfl | rfl <;> rfl
theorem setL_entries (k0 s0 k s : Int) (t : Value) : setL (rollC k0 s0 t) 0 [.int .i64 k, .int .i64 s, .int .i64 0, .int .i64 0, .int .i64 0, .int .i64 0, .int .i64 0, .int .i64 0, .int .i64 0, .int .i64 0, .int .i64 0, .int .i64 0, .int .i64 0, .int .i64 0, .int .i64 0, .int .i64 0] = rollC k s t := by kernel_rfl
theorem RollAt.entries {w : World} {R : Nat} {k0 s0 : Int} {t : Value} (h : RollAt w R k0 s0 t) (k s : Int) : RollAt (w.setCells R 0 [.int .i64 k, .int .i64 s, .int .i64 0, .int .i64 0, .int .i64 0, .int .i64 0, .int .i64 0, .int .i64 0, .int .i64 0, .int .i64 0, .int .i64 0, .int .i64 0, .int .i64 0, .int .i64 0, .int .i64 0, .int .i64 0]) R k s t := ⟨by
  have := setCells_blk [.int .i64 k, .int .i64 s, .int .i64 0, .int .i64 0, .int .i64 0, .int .i64 0, .int .i64 0, .int .i64 0, .int .i64 0, .int .i64 0, .int .i64 0, .int .i64 0, .int .i64 0, .int .i64 0, .int .i64 0, .int .i64 0] 0 h.blk
  rwa [setL_entries] at this⟩
theorem emp_entries {w : World} {b : Nat} {fz : Nat × Nat} (h : w.heap[b]? = some (.cells emptyCells 96 fz)) : w.rangeAt b 0 [.int .i64 0, .int .i64 0, .int .i64 0, .int .i64 0, .int .i64 0, .int .i64 0, .int .i64 0, .int .i64 0, .int .i64 0, .int .i64 0, .int .i64 0, .int .i64 0, .int .i64 0, .int .i64 0, .int .i64 0, .int .i64 0] := range_at h 0 _ rfl
theorem emp_places {w : World} {b : Nat} {fz : Nat × Nat} (h : w.heap[b]? = some (.cells emptyCells 96 fz)) : w.rangeAt b 16 [.slice none 0 0, .slice none 0 0, .slice none 0 0, .slice none 0 0, .slice none 0 0, .slice none 0 0, .slice none 0 0, .slice none 0 0] := range_at h 16 _ rfl
theorem roll_there {w : World} {R : Nat} {k s : Int} {t : Value} (h : RollAt w R k s t) : w.there R 0 16 := there_at h.blk 0 16 (by show 0 + 16 ≤ 24; decide)
/-- In From. -/
structure FromSt (w w0 W : World) (R : Nat) : Prop where
  roll : RollAt W R 0 0 (.pointer none)
  box : W.heap[w.heap.size]? = some (.cells emptyCells 96 (0, 0))
  below : Below w.heap.size w W
  ge : w.heap.size < R
set_option maxHeartbeats 4000000 in
theorem rfrom_c (w : World) : Calls Tryz.prog 37 #[.agg emptyCells] w fun e w' => ∃ R, (e = .returned (.tuple #[.pointer (some ⟨R, 0, none⟩), .int .i64 0])) ∧ w.heap.size ≤ R ∧ RollAt w' R 0 0 (.pointer none) ∧ Below w.heap.size w w' := by
  have KS : Hid (∀ (W : World), Calls Tryz.prog 63 #[.agg emptyCells] W fun e w' => e = .returned (.bool true) ∧ Below W.heap.size W w') := Lib.hid (fun W => Rn.sound_c W)
  have KN := Lib.hid (fun (W : World) => rnew_c W)
  have HBX := Lib.hid (blk_new w emptyCells 96)
  have HB0 : Hid (Below w.heap.size w (w.alloc (.cells emptyCells 96))) := Lib.hid ((Below.refl _ _).alloc (Nat.le_refl _) _)
  have hix := index_nil8
  have HE := Lib.hid (entry_one 0 0)
  go_enter Tryz.func37, Tryz.ntmps37
  go_upto_region 1 with fail
  generalize (w.alloc (.cells emptyCells 96)) = w0 at *
  go_upto_region 4 with (first
    | (refine wpList_load_row rfl 96 (.tmp 1) rfl w.heap.size rfl _ emptyCells _ _ HBX.out Tryz.underlying96 rfl sizeE' ?_)
    | (go_at_call 63; (with_reducible refine (KS.out _).mono ?_); rintro e w1 ⟨rfl, hb1⟩; have HBX1 := Lib.hid (blk_below HBX.out hb1 (lt_of_block HBX.out)); have HB1 := Lib.hid (HB0.out.trans (hb1.mono HB0.out.size)); clear hb1)
    | (go_at_call 64; (with_reducible refine (KN.out _).mono ?_); rintro e w2 ⟨rfl, hr2, hb2⟩; have H2 := Lib.hid (FromSt.mk (w0 := w0) hr2 (blk_below HBX1.out hb2 (lt_of_block HBX1.out)) (HB1.out.trans (hb2.mono HB1.out.size)) (lt_of_block HBX1.out)); clear hr2 hb2))
  generalize w1.heap.size = R at *
  go_upto_region 6 with (first
    | (refine wpList_load_mid rfl 92 (.tmp 16) rfl w.heap.size 0 rfl _ _ (emp_entries H2.out.box) Tryz.underlying92 rfl sizeEn ?_)
    | (refine wpList_store_named rfl 92 (.tmp 19) (.tmp 17) rfl R 0 [.int .i64 0, .int .i64 0, .int .i64 0, .int .i64 0, .int .i64 0, .int .i64 0, .int .i64 0, .int .i64 0, .int .i64 0, .int .i64 0, .int .i64 0, .int .i64 0, .int .i64 0, .int .i64 0, .int .i64 0, .int .i64 0] rfl rfl (roll_there H2.out.roll) sizeEn HE.out ?_; intro w3 hw3; have H3 : Hid (FromSt w w0 w3 R) := Lib.hid (by rw [hw3]; exact ⟨H2.out.roll.entries 0 0, setCells_other (Nat.ne_of_lt H2.out.ge) _ 0 H2.out.box, setCells_below (Nat.le_of_lt H2.out.ge) _ 0 H2.out.below, H2.out.ge⟩); clear hw3)
    | (refine wpList_load_mid rfl 94 (.tmp 20) rfl w.heap.size 16 rfl _ _ (emp_places H3.out.box) Tryz.underlying94 rfl sizePl ?_))
  go_loopg [5, 6, 22] (9) (fun gg _ _ s22 wr => ∃ j : Int, 0 ≤ j ∧ j ≤ 8 ∧ 8 - j < gg ∧ s22 = .int .i64 j ∧ wr = w3)
  case atStart => exact ⟨0, by omega, by omega, by omega, rfl, rfl⟩
  case round =>
    obtain ⟨j, hj0, hj, hgg, rfl, rfl⟩ := hrel
    by_cases hil : j < 8
    · have hi := hix j ⟨hj0, hil⟩
      have hw : wrap64 (j + 1) = j + 1 := by unfold wrap64; omega
      clear hix
      go_wp2
      go_roundg (8 - (j + 1) + 1).toNat
      case measure => omega
      case rel => exact ⟨j + 1, by omega, by omega, by omega, by go_num, rfl⟩
    · clear hix
      go_wp2
      go_ret2
      exact ⟨_, rfl, Nat.le_of_lt H3.out.ge, H3.out.roll, H3.out.below⟩
end Go.Proofs.YtjohhjdicbeojaaGreatDoor.Vd
namespace Go.Proofs.YtjohhjdicbeojaaGreatDoor.Va
open Go.RowKit Go.Proofs.YtjohhjdicbeojaaGreatDoor.Ra
set_option maxRecDepth 8000
def inTypes (ts : List TypeId) : Obj → Bool
  | .cells _ t _ => ts.contains t
  | _ => false
/-- Below B nothing changes; behind it nothing whose type is none of ts. -/
structure Kept (ts : List TypeId) (B : Nat) (a b : World) : Prop where
  below : Below B a b
  kept : ∀ (k : Nat) (o : Obj), a.heap[k]? = some o → inTypes ts o = false → b.heap[k]? = some o
theorem Kept.refl (ts : List TypeId) (B : Nat) (a : World) : Kept ts B a a := ⟨Below.refl _ _, fun _ _ h _ => h⟩
theorem Kept.trans {ts : List TypeId} {B : Nat} {a b c : World} (h : Kept ts B a b) (k : Kept ts B b c) : Kept ts B a c :=
  ⟨h.below.trans k.below, fun x o hx ht => k.kept x o (h.kept x o hx ht) ht⟩
theorem Kept.size {ts : List TypeId} {B : Nat} {a b : World} (h : Kept ts B a b) : a.heap.size ≤ b.heap.size := h.below.size
theorem inTypes_mono {ts us : List TypeId} (hs : (ts.all fun t => us.contains t) = true) {o : Obj} (h : inTypes us o = false) : inTypes ts o = false := by
  cases o with
  | cells vs t fz =>
    cases hc : ts.contains t with
    | false => exact hc
    | true =>
      have h1 := List.all_eq_true.1 hs t (List.contains_iff_mem.1 hc)
      have h2 : us.contains t = false := h
      rw [h2] at h1
      cases h1
  | _ => rfl
theorem Kept.mono {ts us : List TypeId} {B : Nat} {a b : World} (h : Kept ts B a b) (hs : (ts.all fun t => us.contains t) = true) : Kept us B a b :=
  ⟨h.below, fun x o hx ht => h.kept x o hx (inTypes_mono hs ht)⟩
theorem Kept.of {ts : List TypeId} {B : Nat} {a b : World} (h : Below a.heap.size a b) (hB : B ≤ a.heap.size) : Kept ts B a b := ⟨h.mono hB, fun _ _ hx _ => blk_below hx h (lt_of_block hx)⟩
theorem Kept.step {ts : List TypeId} {B : Nat} {a b c : World} (h : Kept ts B a b) (k : Below b.heap.size b c) (hB : B ≤ b.heap.size) : Kept ts B a c := h.trans (Kept.of k hB)
theorem Kept.alloc {ts : List TypeId} {B : Nat} {a b : World} (h : Kept ts B a b) (hB : B ≤ b.heap.size) (o : Obj) : Kept ts B a (b.alloc o) := h.step ((Below.refl _ _).alloc (Nat.le_refl _) o) hB
theorem Kept.drewN {ts : List TypeId} {B : Nat} {a b : World} (h : Kept ts B a b) (n : Nat) : Kept ts B a (b.drewN n) := ⟨⟨h.below.os, h.below.tape, h.below.output, h.below.size, h.below.block⟩, h.kept⟩
theorem Kept.drew {ts : List TypeId} {B : Nat} {a b : World} (h : Kept ts B a b) : Kept ts B a b.drew := ⟨h.below.drew, h.kept⟩
/-- A store into a block of such a type. -/
theorem Kept.set {ts : List TypeId} {B : Nat} {a b : World} (h : Kept ts B a b) {x : Nat} {vs : Array Value} {t : TypeId} {fz : Nat × Nat} (hx : b.heap[x]? = some (.cells vs t fz)) (hB : B ≤ x) (ht : ts.contains t = true) (j : Nat) (v : Value) : Kept ts B a (b.setCell ⟨x, j, none⟩ v) :=
  h.trans ⟨(Below.refl _ _).setCell hB _, fun k o hk hn => blk_set_other hk (fun e => by
    have e' : k = x := e
    subst e'
    rw [hx] at hk
    obtain rfl := Option.some.inj hk
    rw [show inTypes ts (.cells vs t fz) = ts.contains t from rfl, ht] at hn
    cases hn) v⟩
/-- A block changed as a whole. -/
theorem Kept.grown {ts : List TypeId} {B : Nat} {a b c : World} (h : Kept ts B a b) {x : Nat} {vs : Array Value} {t : TypeId} {fz : Nat × Nat} (hx : b.heap[x]? = some (.cells vs t fz)) (hB : B ≤ x) (ht : ts.contains t = true) (hg : b.grownBy c (some x)) : Kept ts B a c :=
  h.trans ⟨⟨hg.os, hg.tape, hg.output, hg.size, fun k hk => hg.block k (Nat.lt_trans (Nat.lt_of_lt_of_le hk hB) (lt_of_block hx)) (fun e => by have := Option.some.inj e; omega)⟩, fun k o hk hn => by
    have hne : k ≠ x := fun e => by
      subst e
      rw [hx] at hk
      obtain rfl := Option.some.inj hk
      rw [show inTypes ts (.cells vs t fz) = ts.contains t from rfl, ht] at hn
      cases hn
    rw [hg.block k (lt_of_block hk) (fun e => hne (Option.some.inj e))]
    exact hk⟩
theorem Kept.at {ts : List TypeId} {B : Nat} {a b : World} (h : Kept ts B a b) {x : Nat} {vs : Array Value} {t : TypeId} {fz : Nat × Nat} (hx : a.heap[x]? = some (.cells vs t fz)) (hn : ts.contains t = false) : b.heap[x]? = some (.cells vs t fz) := h.kept x _ hx hn
theorem Kept.old {ts : List TypeId} {B : Nat} {a b : World} (h : Kept ts B a b) {x : Nat} {o : Obj} (hx : a.heap[x]? = some o) (hB : x < B) : b.heap[x]? = some o := (h.below.block x hB).trans hx
end Go.Proofs.YtjohhjdicbeojaaGreatDoor.Va
namespace Go.Proofs.YtjohhjdicbeojaaGreatDoor.Ru
open Go.RowKit Go.Proofs.YtjohhjdicbeojaaGreatDoor.Ra Go.Proofs.YtjohhjdicbeojaaGreatDoor.Rc Go.Proofs.YtjohhjdicbeojaaGreatDoor.Rd Go.Proofs.YtjohhjdicbeojaaGreatDoor.Re Go.Proofs.YtjohhjdicbeojaaGreatDoor.Rj Go.Proofs.YtjohhjdicbeojaaGreatDoor.Rl Go.Proofs.YtjohhjdicbeojaaGreatDoor.Rn Go.Proofs.YtjohhjdicbeojaaGreatDoor.Ro Go.Proofs.YtjohhjdicbeojaaGreatDoor.Rp Go.Proofs.YtjohhjdicbeojaaGreatDoor.Rq Go.Proofs.YtjohhjdicbeojaaGreatDoor.Rr Go.Proofs.YtjohhjdicbeojaaGreatDoor.Rs Go.Proofs.YtjohhjdicbeojaaGreatDoor.Rt
set_option maxRecDepth 8000
theorem rangeEn {w : World} {b : Nat} (h : w.heap[b]? = some (.cells emptyCells 96 (0, 0))) : w.rangeAt b 0 [.int .i64 0, .int .i64 0, .int .i64 0, .int .i64 0, .int .i64 0, .int .i64 0, .int .i64 0, .int .i64 0, .int .i64 0, .int .i64 0, .int .i64 0, .int .i64 0, .int .i64 0, .int .i64 0, .int .i64 0, .int .i64 0] := fun k v hk => by
  have hk8 : k < 16 := (List.getElem?_eq_some_iff.1 hk).1
  rw [Nat.zero_add, blk_cell h]
  have hcase : k = 0 ∨ k = 1 ∨ k = 2 ∨ k = 3 ∨ k = 4 ∨ k = 5 ∨ k = 6 ∨ k = 7 ∨ k = 8 ∨ k = 9 ∨ k = 10 ∨ k = 11 ∨ k = 12 ∨ k = 13 ∨ k = 14 ∨ k = 15 := by omega
  rcases hcase with rfl | rfl | rfl | rfl | rfl | rfl | rfl | rfl | rfl | rfl | rfl | rfl | rfl | rfl | rfl | rfl <;> exact hk
theorem sizeEn : (Tryz.prog.info? 92).map (·.size) = some 16 := by kernel_rfl
theorem cellP {w : World} {b : Nat} (h : w.heap[b]? = some (.cells emptyCells 96 (0, 0))) (j : Nat) (hj : j < 8) : w.cell? ⟨b, 16 + j, none⟩ = some (.slice none 0 0) := by
  rw [blk_cell h]
  have hcase : j = 0 ∨ j = 1 ∨ j = 2 ∨ j = 3 ∨ j = 4 ∨ j = 5 ∨ j = 6 ∨ j = 7 := by omega
  rcases hcase with rfl | rfl | rfl | rfl | rfl | rfl | rfl | rfl <;> rfl
theorem row_base {B C e sz n : Nat} {w : World} {v : Value} {xs : List Value} (h : w.ownsRow B e sz v n xs) (hC : C ≤ B) : w.ownsRow C e sz v n xs := by
  refine ⟨h.1, ?_⟩
  rcases h.2 with hn | ⟨g, cap, cur, hv, hg, r⟩
  · exact Or.inl hn
  · exact Or.inr ⟨g, cap, cur, hv, Nat.le_trans hC hg, r⟩
theorem rowL00 : rowL 1 [0, 0] = [0, 0] := by decide
set_option maxHeartbeats 4000000 in
theorem payload_c (s b : Int) (w : World) : Calls Tryz.prog 153 #[.agg emptyCells, .agg #[.int .i64 s, .int .i64 b]] w fun e w' => ∃ v, e = .returned v ∧ NewBytes w (List.replicate 16 0) v w' := by
  have H0 := Lib.hid (Boxes.start s b w)
  have HSE := Lib.hid sizeEn
  go_enter Tryz.func153, Tryz.ntmps153
  go_upto_region 1 with fail
  generalize ((w.alloc (.cells emptyCells 96)).alloc (.cells #[.int .i64 s, .int .i64 b] 58)) = w0 at *
  have HRE := Lib.hid (rangeEn H0.out.1)
  go_wp2_with (refine wpList_load_mid rfl 92 (.tmp 11) rfl w.heap.size 0 rfl _ _ HRE.out Tryz.underlying92 rfl HSE.out ?_)
  go_loopg [5, 6, 7, 13] (9) (fun gg s5 _ _ s13 wr => ∃ j : Nat, j ≤ 8 ∧ 8 - j < gg ∧ s13 = .int .i64 (j : Int) ∧ Hid (wr.ownsRow w0.heap.size 5 1 s5 (List.replicate (2 * j) (0 : UInt8)).length (byteVals (List.replicate (2 * j) 0)) ∧ Below w0.heap.size w0 wr))
  case atStart => exact ⟨0, by omega, by omega, rfl, Lib.hid ⟨World.ownsRow_nil _ _ _ _, Below.refl _ _⟩⟩
  case round =>
    obtain ⟨j, hj, hgg, rfl, HR⟩ := hrel
    by_cases hlt : j < 8
    · have hil : (j : Int) < 8 := by omega
      have hix := index_entry (j : Int) ⟨by omega, hil⟩
      have BW : Below wr.heap.size wr ((wr.alloc (.cells #[.int .i64 0, .int .i64 0] 91)).alloc (.cells #[.int .i64 0, .int .i64 0] 3)) := ((Below.refl _ _).alloc (Nat.le_refl _) _).alloc (by rw [sz_alloc]; omega) _
      have hb2 := blk_new (wr.alloc (.cells #[.int .i64 0, .int .i64 0] 91)) #[.int .i64 0, .int .i64 0] 3
      rw [sz_alloc] at hb2
      have hI : IntsIn 0 ((wr.alloc (.cells #[.int .i64 0, .int .i64 0] 91)).alloc (.cells #[.int .i64 0, .int .i64 0] 3)) (.slice (some ⟨wr.heap.size + 1, 0, none⟩) 2 2) [0, 0] := ints_of_blk hb2 rfl rfl
      have hkp := leafput_c 0 w0.heap.size u5 (List.replicate (2 * j) 0) 1 _ [0, 0] _ (Nat.zero_le _) (Nat.le_trans HR.out.2.size BW.size) (row_below HR.out.1 BW) (by omega) hI (by decide) (by decide) (by intro x hx; simp at hx; subst hx; decide) (by rw [List.length_replicate]; omega)
      rw [show (((1 : Nat)) : Int) = 1 from rfl] at hkp
      have KP := Lib.hid hkp
      clear hkp
      have HBW := Lib.hid BW
      clear BW hb2 hI
      go_wp2_with (go_at_call 156; (with_reducible refine KP.out.mono ?_); rintro e w5 ⟨v5, rfl, hp⟩; have HP := Lib.hid hp; have HB5 := Lib.hid (HR.out.2.trans ((HBW.out.mono HR.out.2.size).trans (below_grown (row_below HR.out.1 HBW.out) (Nat.le_trans HR.out.2.size HBW.out.size) hp.grown))); have cj := cellP (H0.out.later HB5.out).1 j hlt; have hX5 : w.heap.size < w5.heap.size := lt_of_block (H0.out.later HB5.out).1; clear hp)
      have HN : Hid (w5.ownsRow w0.heap.size 5 1 v5 (List.replicate (2 * (j + 1)) (0 : UInt8)).length (byteVals (List.replicate (2 * (j + 1)) 0)) ∧ Below w0.heap.size w0 w5) := Lib.hid ⟨by
        have := HP.out.row
        rw [rowL00, show List.replicate (2 * j) (0 : UInt8) ++ [0, 0] = List.replicate (2 * (j + 1)) 0 from by rw [show ([0, 0] : List UInt8) = List.replicate 2 0 from rfl, List.replicate_append_replicate, Nat.mul_add]] at this
        exact this, HB5.out⟩
      go_wp2
      go_loopg [5, 9, 10, 29] (1) (fun gg s5 _ _ s29 wr2 => s5 = v5 ∧ s29 = .int .i64 0 ∧ gg = 1 ∧ wr2 = w5)
      case atStart => exact ⟨rfl, rfl, rfl, rfl⟩
      case round =>
        obtain ⟨rfl, rfl, _, rfl⟩ := hrel
        go_wp2
        go_roundg (8 - (j + 1) + 1)
        case measure => omega
        case rel => exact ⟨j + 1, by omega, by omega, by go_num, HN⟩
    · have hil : ¬ (j : Int) < 8 := by omega
      obtain rfl : j = 8 := by omega
      go_wp2
      go_ret
      refine ⟨_, rfl, ?_, H0.out.2.2.trans (HR.out.2.mono H0.out.2.2.size)⟩
      exact row_base HR.out.1 H0.out.2.2.size
end Go.Proofs.YtjohhjdicbeojaaGreatDoor.Ru
