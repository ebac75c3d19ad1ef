-- Written by a program of ours (wip/printx.sh), for this claim
import Derived.Test.YtnbgljphdkfmpaaPChooserSpreadx0
import Derived.Test.YtnbgljphdkfmpaaPChooserSpreadx2
namespace Go.Proofs.Ytnbgljphdkfmpaa.PChooserSpread
open Go.RowKit Go.Proofs.YtnbgljphdkfmpaaW.PrintWords Go.Proofs.YtnbgljphdkfmpaaW.PrintLast Go.Proofs.YtnbgljphdkfmpaaW.PrintMore
attribute [local go_sem] max2_int min2_int max_two min_two max_three min_three max_four min_four   -- for this text's walks alone
set_option linter.unusedVariables false
set_option linter.unusedSimpArgs false

/-! ### stopcocklaw12_ChooserSpread: function 13 -/
mutual
def stopcocklaw12_ChooserSpread.l0 : Nat → List Int → List Int → Int → Int → Int → Int → Int → Int → Int → Option (Bool)
  | 0, _, _, _, _, _, _, _, _, _ => none
  | k + 1, x2, x10, x11, x12, x13, x14, x15, x153000, x153001 => if x15 < x153000 then (if x15 < (x2.length : Int) then (if 0 ≤ x15 then (if (wrap64 (x153001 + 1)) = 0 then (none) else (if x15 < (x10.length : Int) then (stopcocklaw12_ChooserSpread.j1 k x2 (x10.set (x15 : Int).toNat (Int.tmod (wrap64 (rd x2 x15)) (wrap64 (x153001 + 1)))) x11 x12 x13 x14 x15 x153000 x153001) else (none))) else (none)) else (stopcocklaw12_ChooserSpread.j1 k x2 x10 x11 x12 x13 x14 x15 x153000 x153001)) else (if 0 ≤ x153000 then (if (x153000 : Int).toNat ≤ 35184372088832 then ((chooser_Pick.f k x153000 x153001 x10 (List.replicate (x153000 : Int).toNat 0) (([x14] : List Int))).bind fun bt170 => (if x12 > 2 then ((stopcocklaw12_awake.f k).bind fun t172 => (if t172 = true then (if bt170.2 = 0 then (some true) else (some (bt170.2 == 4))) else (some false))) else ((stopcocklaw12_awake.f k).bind fun t173 => (if t173 = true then (some (bt170.2 == 0)) else (some false))))) else (none)) else (none))
def stopcocklaw12_ChooserSpread.j1 : Nat → List Int → List Int → Int → Int → Int → Int → Int → Int → Int → Option (Bool)
  | 0, _, _, _, _, _, _, _, _, _ => none
  | k + 1, x2, x10, x11, x12, x13, x14, x15, x153000, x153001 => if 0 ≤ x15 then (if x15 < (x10.length : Int) then (if (wrap64 (x11 + (rd x10 x15))) > x13 then ((some (x10.set (x15 : Int).toNat (wrap64 (x13 - x11)) : List Int)).bind fun y159 => (if (rd y159 x15) = 0 then (if x15 = x14 then (stopcocklaw12_ChooserSpread.l0 k x2 y159 (wrap64 (x11 + (rd y159 x15))) x12 x13 x14 (wrap64 (x15 + 1)) x153000 x153001) else (stopcocklaw12_ChooserSpread.l0 k x2 y159 (wrap64 (x11 + (rd y159 x15))) (wrap64 (x12 + 1)) x13 x14 (wrap64 (x15 + 1)) x153000 x153001)) else (stopcocklaw12_ChooserSpread.l0 k x2 y159 (wrap64 (x11 + (rd y159 x15))) x12 x13 x14 (wrap64 (x15 + 1)) x153000 x153001))) else (if (rd x10 x15) = 0 then (if x15 = x14 then (stopcocklaw12_ChooserSpread.l0 k x2 x10 (wrap64 (x11 + (rd x10 x15))) x12 x13 x14 (wrap64 (x15 + 1)) x153000 x153001) else (stopcocklaw12_ChooserSpread.l0 k x2 x10 (wrap64 (x11 + (rd x10 x15))) (wrap64 (x12 + 1)) x13 x14 (wrap64 (x15 + 1)) x153000 x153001)) else (stopcocklaw12_ChooserSpread.l0 k x2 x10 (wrap64 (x11 + (rd x10 x15))) x12 x13 x14 (wrap64 (x15 + 1)) x153000 x153001))) else (none)) else (none)
end
def stopcocklaw12_ChooserSpread.f (k : Nat) (a0 : Int) (a1 : Int) (l2 : List Int) (a3 : Int) : Option (Bool) := if 0 ≤ (wrap64 (6 + (wrap64 (Int.tmod a0 19)))) then (if (wrap64 (6 + (wrap64 (Int.tmod a0 19))) : Int).toNat ≤ 35184372088832 then (if (wrap64 (6 + (wrap64 (Int.tmod a0 19)))) = 0 then (none) else (stopcocklaw12_ChooserSpread.l0 k l2 (List.replicate (wrap64 (6 + (wrap64 (Int.tmod a0 19))) : Int).toNat 0) 0 0 (wrap64 ((wrap64 ((wrap64 (6 + (wrap64 (Int.tmod a0 19)))) - 4)) * (wrap64 (2 + (wrap64 (Int.tmod a1 15)))))) (Int.tmod (wrap64 (a3)) (wrap64 (6 + (wrap64 (Int.tmod a0 19))))) 0 (wrap64 (6 + (wrap64 (Int.tmod a0 19)))) (wrap64 (2 + (wrap64 (Int.tmod a1 15)))))) else (none)) else (none)
theorem stopcocklaw12_ChooserSpread.mono_l : ∀ k, (∀ y0 y1 y2 y3 y4 y5 y6 y7 y8, LeO (stopcocklaw12_ChooserSpread.l0 k y0 y1 y2 y3 y4 y5 y6 y7 y8) (stopcocklaw12_ChooserSpread.l0 (k + 1) y0 y1 y2 y3 y4 y5 y6 y7 y8)) ∧ (∀ y0 y1 y2 y3 y4 y5 y6 y7 y8, LeO (stopcocklaw12_ChooserSpread.j1 k y0 y1 y2 y3 y4 y5 y6 y7 y8) (stopcocklaw12_ChooserSpread.j1 (k + 1) y0 y1 y2 y3 y4 y5 y6 y7 y8))
  | 0 => ⟨fun _ _ _ _ _ _ _ _ _ r h => by simp [stopcocklaw12_ChooserSpread.l0] at h, fun _ _ _ _ _ _ _ _ _ r h => by simp [stopcocklaw12_ChooserSpread.j1] at h⟩
  | k + 1 => by
    obtain ⟨ih0, ih1⟩ := stopcocklaw12_ChooserSpread.mono_l k
    refine ⟨?_, ?_⟩
    · intro y0 y1 y2 y3 y4 y5 y6 y7 y8
      unfold stopcocklaw12_ChooserSpread.l0
      repeat' first
      | (with_reducible exact ih0 _ _ _ _ _ _ _ _ _)
      | (with_reducible exact ih1 _ _ _ _ _ _ _ _ _)
      | (with_reducible exact chooser_Pick.mono _ _ _ _ _ _)
      | (with_reducible exact stopcocklaw12_awake.mono _)
      | (with_reducible exact LeO.refl _)
      | (with_reducible exact LeO.none _)
      | (with_reducible refine LeO.ite ?_ ?_)
      | (with_reducible refine LeO.bind ?_ (fun _ => ?_))
      | exact ih0 _ _ _ _ _ _ _ _ _
      | exact ih1 _ _ _ _ _ _ _ _ _
      | exact chooser_Pick.mono _ _ _ _ _ _
      | exact stopcocklaw12_awake.mono _
      | exact LeO.none _
      | refine LeO.ite ?_ ?_
      | refine LeO.bind ?_ (fun _ => ?_)
    · intro y0 y1 y2 y3 y4 y5 y6 y7 y8
      unfold stopcocklaw12_ChooserSpread.j1
      repeat' first
      | (with_reducible exact ih0 _ _ _ _ _ _ _ _ _)
      | (with_reducible exact ih1 _ _ _ _ _ _ _ _ _)
      | (with_reducible exact chooser_Pick.mono _ _ _ _ _ _)
      | (with_reducible exact stopcocklaw12_awake.mono _)
      | (with_reducible exact LeO.refl _)
      | (with_reducible exact LeO.none _)
      | (with_reducible refine LeO.ite ?_ ?_)
      | (with_reducible refine LeO.bind ?_ (fun _ => ?_))
      | exact ih0 _ _ _ _ _ _ _ _ _
      | exact ih1 _ _ _ _ _ _ _ _ _
      | exact chooser_Pick.mono _ _ _ _ _ _
      | exact stopcocklaw12_awake.mono _
      | exact LeO.none _
      | refine LeO.ite ?_ ?_
      | refine LeO.bind ?_ (fun _ => ?_)
theorem stopcocklaw12_ChooserSpread.mono : ∀ a0 a1 a2 a3 k, LeO (stopcocklaw12_ChooserSpread.f k a0 a1 a2 a3) (stopcocklaw12_ChooserSpread.f (k + 1) a0 a1 a2 a3) := by
  intro a0 a1 a2 a3 k
  obtain ⟨ih0, ih1⟩ := stopcocklaw12_ChooserSpread.mono_l k
  unfold stopcocklaw12_ChooserSpread.f
  repeat' first
      | (with_reducible exact ih0 _ _ _ _ _ _ _ _ _)
      | (with_reducible exact ih1 _ _ _ _ _ _ _ _ _)
      | (with_reducible exact chooser_Pick.mono _ _ _ _ _ _)
      | (with_reducible exact stopcocklaw12_awake.mono _)
      | (with_reducible exact LeO.refl _)
      | (with_reducible exact LeO.none _)
      | (with_reducible refine LeO.ite ?_ ?_)
      | (with_reducible refine LeO.bind ?_ (fun _ => ?_))
      | exact ih0 _ _ _ _ _ _ _ _ _
      | exact ih1 _ _ _ _ _ _ _ _ _
      | exact chooser_Pick.mono _ _ _ _ _ _
      | exact stopcocklaw12_awake.mono _
      | exact LeO.none _
      | refine LeO.ite ?_ ?_
      | refine LeO.bind ?_ (fun _ => ?_)
def stopcocklaw12_ChooserSpread.T10 : Bool × List (List Nat × List Nat) := (true, [([], []), ([], []), ([], []), ([], []), ([2, 3], [2, 3]), ([4], [4]), ([5], [5]), ([], []), ([7], [7]), ([8], [8]), ([6, 9], [6, 9]), ([0, 1, 0, 1, 2, 3, 4, 5, 6, 7, 8, 9, 10], [0, 1]), ([11, 10, 0, 1, 2, 3, 4, 5, 6, 7, 8, 9, 10], [10, 11])])
def stopcocklaw12_ChooserSpread.B10 : List Nat := [0, 0, 0, 0, 12, 28, 60, 0, 128, 384, 1020, 2047, 4095]
theorem stopcocklaw12_ChooserSpread.tab10 : rtab .any (opsOf Try.f13 10) = stopcocklaw12_ChooserSpread.T10 := by kernel_rfl
theorem stopcocklaw12_ChooserSpread.bits10 : waitsOk stopcocklaw12_ChooserSpread.T10.2 stopcocklaw12_ChooserSpread.B10 = true := by kernel_rfl
def stopcocklaw12_ChooserSpread.T16 : Bool × List (List Nat × List Nat) := (true, [([], []), ([], []), ([], []), ([2], [2]), ([3, 3], [3]), ([], []), ([5], [5]), ([0, 1, 4, 6], [0, 1, 4, 6]), ([7], [7]), ([8], [8]), ([8], [8]), ([9, 7, 0, 1, 2, 3, 4, 5, 6, 7, 8, 9], [9]), ([10, 11, 0, 1, 2, 3, 4, 5, 6, 7, 8, 9, 10, 11], [10])])
def stopcocklaw12_ChooserSpread.B16 : List Nat := [0, 0, 0, 4, 12, 0, 32, 127, 255, 511, 511, 1023, 4095]
theorem stopcocklaw12_ChooserSpread.tab16 : rtab .any (opsOf Try.f13 16) = stopcocklaw12_ChooserSpread.T16 := by kernel_rfl
theorem stopcocklaw12_ChooserSpread.bits16 : waitsOk stopcocklaw12_ChooserSpread.T16.2 stopcocklaw12_ChooserSpread.B16 = true := by kernel_rfl
set_option maxHeartbeats 8000000 in
set_option maxRecDepth 100000 in
theorem stopcocklaw12_ChooserSpread.calls (k : Nat) (a0 : Int) (a1 : Int) (A2 : Option Addr) (c2 : Nat) (l2 : List Int) (a3 : Int) (r : Bool) (w : World) (hr2 : Kd.C (Kd.int .u8) w A2 l2.length l2) (hc2 : l2.length ≤ c2) (h : stopcocklaw12_ChooserSpread.f k a0 a1 l2 a3 = some r) :
    Calls Try.prog 13 #[.int .u8 a0, .int .u8 a1, .slice A2 l2.length c2, .int .u8 a3] w fun e w' => e = .returned (.bool r) ∧ Below w.heap.size w w' := by
  have hu39 := Try.underlying39
  have HR2 := Aside0.mk hr2
  have HC2 := Aside0.mk hc2
  clear hr2 hc2
  have HB := Aside0.mk (Below.refl w.heap.size w)
  have H : (if 0 ≤ (wrap64 (6 + (wrap64 (Int.tmod a0 19)))) then (if (wrap64 (6 + (wrap64 (Int.tmod a0 19))) : Int).toNat ≤ 35184372088832 then (if (wrap64 (6 + (wrap64 (Int.tmod a0 19)))) = 0 then (none) else (stopcocklaw12_ChooserSpread.l0 k l2 (List.replicate (wrap64 (6 + (wrap64 (Int.tmod a0 19))) : Int).toNat 0) 0 0 (wrap64 ((wrap64 ((wrap64 (6 + (wrap64 (Int.tmod a0 19)))) - 4)) * (wrap64 (2 + (wrap64 (Int.tmod a1 15)))))) (Int.tmod (wrap64 (a3)) (wrap64 (6 + (wrap64 (Int.tmod a0 19))))) 0 (wrap64 (6 + (wrap64 (Int.tmod a0 19)))) (wrap64 (2 + (wrap64 (Int.tmod a1 15)))))) else (none)) else (none)) = some r := h
  clear h
  obtain ⟨ji5, hji5⟩ : ∃ j_ : Int, (wrap64 (6 + (wrap64 (Int.tmod a0 19)))) = j_ := ⟨_, rfl⟩
  replace H : (if 0 ≤ (ji5) then (if (ji5 : Int).toNat ≤ 35184372088832 then (if (ji5) = 0 then (none) else (stopcocklaw12_ChooserSpread.l0 k l2 (List.replicate (ji5 : Int).toNat 0) 0 0 (wrap64 ((wrap64 ((ji5) - 4)) * (wrap64 (2 + (wrap64 (Int.tmod a1 15)))))) (Int.tmod (wrap64 (a3)) (ji5)) 0 ji5 (wrap64 (2 + (wrap64 (Int.tmod a1 15)))))) else (none)) else (none)) = some r := by first | (rw [hji5] at H; exact H) | (simp only [hji5] at H ⊢; exact H)
  have hji5w : (IntKind.i64.wrap (6 + (wrap64 (Int.tmod a0 19)))) = ji5 := (i64_w _).trans hji5
  by_cases c6 : 0 ≤ (ji5)
  · rw [if_pos c6] at H
    have c6b0 := eq_true c6
    have c6b1 : decide (0 ≤ (ji5)) = true := decide_eq_true c6
    clear c6
    by_cases c7 : (ji5 : Int).toNat ≤ 35184372088832
    · rw [if_pos c7] at H
      have c7b0 := eq_true c7
      have c7b1 : decide ((ji5 : Int).toNat ≤ 35184372088832) = true := decide_eq_true c7
      clear c7
      obtain ⟨y153, hy153⟩ : ∃ y_ : List Int, y_ = (List.replicate (ji5 : Int).toNat 0) := ⟨_, rfl⟩
      replace H : (if (ji5) = 0 then (none) else (stopcocklaw12_ChooserSpread.l0 k l2 y153 0 0 (wrap64 ((wrap64 ((ji5) - 4)) * (wrap64 (2 + (wrap64 (Int.tmod a1 15)))))) (Int.tmod (wrap64 (a3)) (ji5)) 0 ji5 (wrap64 (2 + (wrap64 (Int.tmod a1 15)))))) = some r := by first | (rw [hy153]; with_reducible exact H) | (have H2_ := (Option.bind_some _ _).symm.trans H; rw [hy153]; with_reducible exact H2_) | (have H2_ := (Option.bind_some _ _).symm.trans H; with_reducible exact H2_) | with_reducible exact H | (rw [hy153]; exact H) | exact H
      have Ny153 := Aside0.mk hy153
      clear hy153
      by_cases c8 : (ji5) = 0
      · rw [if_pos c8] at H
        exact absurd H (by simp)
      · rw [if_neg c8] at H
        have c8b0 : ((ji5) == 0) = false := beq_eq_false_iff_ne.mpr c8
        have c8b1 : ((ji5) != 0) = true := bne_iff_ne.mpr c8
        have H' := Aside0.mk H
        clear H
        go_enter Try.func13, Try.ntmps13
        go_wp2_with (first | ((with_reducible refine gate_dst (N := 9) rfl ?_); refine box_event ?hg (N := 9) ?hd (cs := #[.int .i64 0, .int .i64 0]) (t := 39) ?hr ?_; (case hd => rfl); (case hg => rfl); (case hr => first | (go_simp; done) | (go_simp; rfl)); intro gb152 hg w9 hbox hb; have n0_ := Aside0.mk (below_step (by repeat (first | (with_reducible first | exact HB.out | apply below_alloc | apply pw_below_drewN | apply below_drew1) | exact HB.out)) hb); have n1_ := Aside0.mk (hbox); have n2_ := Aside0.mk ((by rw [hg]; exact (below_size (by repeat (first | (with_reducible first | exact HB.out | apply below_alloc | apply pw_below_drewN | apply below_drew1) | exact HB.out))) : w.heap.size ≤ gb152)); have n3_ := Aside0.mk ((by rw [hg]; exact (below_size (by repeat (first | (with_reducible first | exact HB.out | apply below_alloc | apply pw_below_drewN | apply below_drew1) | exact HB.out))) : w.heap.size ≤ gb152)); clear HB; have HB := n0_; have BK152 := n1_; have GW152 := n2_; have GE152 := n3_; clear n0_ n1_ n2_ n3_; clear hb hbox hg; have hcz10_0 : w9.cell? ⟨gb152, 0, none⟩ = some (.int .i64 0) := (blk_cell BK152.out 0).trans rfl; have hcz10_1 : w9.cell? ⟨gb152, 1, none⟩ = some (.int .i64 0) := (blk_cell BK152.out 1).trans rfl; have hfz10_0 := blk_frozen BK152.out 0; have hfz10_1 := blk_frozen BK152.out 1) | ((with_reducible refine gate_dst (N := 29) rfl ?_); refine Kd.R_make (Kd.int .i64) _ 3 rfl (N := 29) rfl 30 _ _ rfl ji5 rfl rfl Try.underlying30 (.int .i64 0) 8 info3 rfl (by decide) (by omega) 0 (ok := fun _ => True) (okp := fun _ => True) rfl (fun _ hk => hk) trivial (of_decide_eq_true (by first | (with_reducible assumption) | assumption)) (Nat.le_trans (Nat.mul_le_mul_right _ (of_decide_eq_true (by first | (with_reducible assumption) | assumption) : ji5.toNat ≤ 35184372088832)) (by omega)) (Below.refl _ _) (Nat.le_refl _) ?_; intro v154 w11 ho12 hb hg_ hnew_; clear hg_ hnew_; (first | rw [← Ny153.out] at ho12 | (simp only [Int.reduceToNat] at ho12; rw [← Ny153.out] at ho12)); have n0_ := Aside0.mk (Kd.R_lower ho12 (below_size (by repeat (first | (with_reducible first | exact HB.out | apply below_alloc | apply pw_below_drewN | apply below_drew1 | refine below_set ?_ GE152.out) | exact HB.out)))); have n1_ := Aside0.mk (blk_below (g := gb152) (o := .cells #[.int .i64 ji5, .int .i64 (wrap64 (2 + (wrap64 (Int.tmod a1 15))))] 39 (0, 0)) (by (with_reducible repeat (first | refine blk_drewN ?_ _ | refine blk_drew ?_ | refine blk_alloc ?_ _)); refine blk_put (cs := #[.int .i64 ji5, .int .i64 0]) ?_ 1 _ rfl; (with_reducible repeat (first | refine blk_drewN ?_ _ | refine blk_drew ?_ | refine blk_alloc ?_ _)); refine blk_put (cs := #[.int .i64 0, .int .i64 0]) ?_ 0 _ rfl; (with_reducible repeat (first | refine blk_drewN ?_ _ | refine blk_drew ?_ | refine blk_alloc ?_ _)); exact BK152.out) hb); have n2_ := Aside0.mk (below_step (by repeat (first | (with_reducible first | exact HB.out | apply below_alloc | apply pw_below_drewN | apply below_drew1 | refine below_set ?_ GE152.out) | exact HB.out)) hb); clear BK152; clear HB; have HO155 := n0_; have BK152 := n1_; have HB := n2_; clear n0_ n1_ n2_; clear hb ho12; have hcz13_0 : w11.cell? ⟨gb152, 0, none⟩ = some (.int .i64 ji5) := (blk_cell BK152.out 0).trans rfl; have hcz13_1 : w11.cell? ⟨gb152, 1, none⟩ = some (.int .i64 (wrap64 (2 + (wrap64 (Int.tmod a1 15))))) := (blk_cell BK152.out 1).trans rfl; have hfz13_0 := blk_frozen BK152.out 0; have hfz13_1 := blk_frozen BK152.out 1))
        go_loopg [11, 12, 15] k (fun kq v11 v12 v15 w' => ∃ (x10_1 : List Int) (x11_1 : Int) (x12_1 : Int) (x15_1 : Int), v11 = .int .i64 x11_1 ∧ v12 = .int .i64 x12_1 ∧ v15 = .int .i64 x15_1 ∧ Aside0 (stopcocklaw12_ChooserSpread.l0 kq l2 x10_1 x11_1 x12_1 (wrap64 ((wrap64 ((ji5) - 4)) * (wrap64 (2 + (wrap64 (Int.tmod a1 15)))))) (Int.tmod (wrap64 (a3)) (ji5)) x15_1 ji5 (wrap64 (2 + (wrap64 (Int.tmod a1 15)))) = some r) ∧ Aside0 (kq ≤ k) ∧ Aside0 (Kd.R (Kd.int .i64) 3 w' w.heap.size (fun _ => True) v154 x10_1) ∧ Aside0 (w'.heap[gb152]? = some (.cells #[.int .i64 ji5, .int .i64 (wrap64 (2 + (wrap64 (Int.tmod a1 15))))] 39 (0, 0))) ∧ Aside0 (Below w.heap.size w w'))
        case atStart => exact ⟨(y153), (0), (0), (0), (by first | rfl | (simp; done) | (simp [*]; done)), (by first | rfl | (simp; done) | (simp [*]; done)), (by first | rfl | (simp; done) | (simp [*]; done)), H', ⟨Nat.le_refl _⟩, ⟨by (with_reducible repeat (first | apply Kd.R_alloc | apply Kd.R_drewN | apply Kd.R_drew)); exact HO155.out⟩, ⟨by (with_reducible repeat (first | refine blk_drewN ?_ _ | refine blk_drew ?_ | refine blk_alloc ?_ _)); exact BK152.out⟩, ⟨by repeat (first | (with_reducible first | exact HB.out | apply below_alloc | apply pw_below_drewN | apply below_drew1 | refine below_set ?_ GE152.out) | exact HB.out)⟩⟩
        case round =>
          clear H'
          try clear c1
          try clear c2
          try clear p2
          try clear c6
          try clear c6b0
          try clear c6b1
          try clear p6
          try clear c7
          try clear c7b0
          try clear c7b1
          try clear c8
          try clear c8b0
          try clear c8b1
          try clear c13
          try clear hcz10_0
          try clear hcz10_1
          try clear hcz13_0
          try clear hcz13_1
          try clear hfz10_0
          try clear hfz10_1
          try clear hfz13_0
          try clear hfz13_1
          obtain ⟨x10_1, x11_1, x12_1, x15_1, rfl, rfl, rfl, HA, HK1, HO_10, BK152, HB⟩ := hrel
          cases gk with
          | zero => exact absurd HA.out (by simp [stopcocklaw12_ChooserSpread.l0])
          | succ k1 =>
            have H := HA.out
            clear HA
            simp only [stopcocklaw12_ChooserSpread.l0] at H
            by_cases c14 : x15_1 < ji5
            · rw [if_pos c14] at H
              have c14b0 : decide (x15_1 < ji5) = true := decide_eq_true c14
              clear c14
              have HC15 := Aside0.mk H
              clear H
              have hcz16_0 : wr.cell? ⟨gb152, 0, none⟩ = some (.int .i64 ji5) := (blk_cell BK152.out 0).trans rfl
              have hcz16_1 : wr.cell? ⟨gb152, 1, none⟩ = some (.int .i64 (wrap64 (2 + (wrap64 (Int.tmod a1 15))))) := (blk_cell BK152.out 1).trans rfl
              have hfz16_0 := blk_frozen BK152.out 0
              have hfz16_1 := blk_frozen BK152.out 1
              go_upto_if 50 with (fail)
              go_cut [] (fun wc => ∃ (kq : Nat) (x10_14 : List Int), Aside0 (stopcocklaw12_ChooserSpread.j1 kq l2 x10_14 x11_1 x12_1 (wrap64 ((wrap64 ((ji5) - 4)) * (wrap64 (2 + (wrap64 (Int.tmod a1 15)))))) (Int.tmod (wrap64 (a3)) (ji5)) x15_1 ji5 (wrap64 (2 + (wrap64 (Int.tmod a1 15)))) = some r) ∧ Aside0 (kq ≤ k1) ∧ Aside0 (Kd.R (Kd.int .i64) 3 wc w.heap.size (fun _ => True) v154 x10_14) ∧ Aside0 (wc.heap[gb152]? = some (.cells #[.int .i64 ji5, .int .i64 (wrap64 (2 + (wrap64 (Int.tmod a1 15))))] 39 (0, 0))) ∧ Aside0 (Below w.heap.size w wc))
              case first =>
                have H := HC15.out
                clear HC15
                by_cases c17 : x15_1 < (l2.length : Int)
                · rw [if_pos c17] at H
                  have c17b0 : decide (x15_1 < (l2.length : Int)) = true := decide_eq_true c17
                  clear c17
                  (first | rw [c17b0] | (simp only [i64_w, i32_w]; rw [c17b0]) | skip)
                  by_cases c18 : 0 ≤ x15_1
                  · rw [if_pos c18] at H
                    have c18b0 : decide (0 ≤ x15_1) = true := decide_eq_true c18
                    clear c18
                    by_cases c19 : (wrap64 ((wrap64 (2 + (wrap64 (Int.tmod a1 15)))) + 1)) = 0
                    · rw [if_pos c19] at H
                      exact absurd H (by simp)
                    · rw [if_neg c19] at H
                      have c19b0 : ((wrap64 ((wrap64 (2 + (wrap64 (Int.tmod a1 15)))) + 1)) == 0) = false := beq_eq_false_iff_ne.mpr c19
                      have c19b1 : ((wrap64 ((wrap64 (2 + (wrap64 (Int.tmod a1 15)))) + 1)) != 0) = true := bne_iff_ne.mpr c19
                      by_cases c20 : x15_1 < (x10_1.length : Int)
                      · rw [if_pos c20] at H
                        have c20b0 : decide (x15_1 < (x10_1.length : Int)) = true := decide_eq_true c20
                        clear c20
                        obtain ⟨y157, hy157⟩ : ∃ y_ : List Int, y_ = (x10_1.set (x15_1 : Int).toNat (Int.tmod (wrap64 (rd l2 x15_1)) (wrap64 ((wrap64 (2 + (wrap64 (Int.tmod a1 15)))) + 1)))) := ⟨_, rfl⟩
                        replace H : (stopcocklaw12_ChooserSpread.j1 k1 l2 y157 x11_1 x12_1 (wrap64 ((wrap64 ((ji5) - 4)) * (wrap64 (2 + (wrap64 (Int.tmod a1 15)))))) (Int.tmod (wrap64 (a3)) (ji5)) x15_1 ji5 (wrap64 (2 + (wrap64 (Int.tmod a1 15))))) = some r := by first | (rw [hy157]; with_reducible exact H) | (have H2_ := (Option.bind_some _ _).symm.trans H; rw [hy157]; with_reducible exact H2_) | (have H2_ := (Option.bind_some _ _).symm.trans H; with_reducible exact H2_) | with_reducible exact H | (rw [hy157]; exact H) | exact H
                        have Ny157 := Aside0.mk hy157
                        clear hy157
                        have H' := Aside0.mk H
                        clear H
                        try go_wp2
                        have n0_ := Aside0.mk (Kd.R_drew HO_10.out)
                        have n1_ := Aside0.mk (blk_drew BK152.out)
                        have n2_ := Aside0.mk (below_drew1 HB.out)
                        clear HO_10
                        clear BK152
                        clear HB
                        have HO_10 := n0_
                        have BK152 := n1_
                        have HB := n2_
                        clear n0_ n1_ n2_
                        have p156 : 0 ≤ (x15_1 : Int) := of_decide_eq_true (by first | (with_reducible assumption) | assumption)
                        have q156 : x15_1 < (l2.length : Int) := of_decide_eq_true (by first | (with_reducible assumption) | assumption)
                        obtain ⟨ad156, e156, hx156_0⟩ := Kd.at_int HR2.out x15_1 p156 q156
                        have hw156_0 := hx156_0
                        cases e156
                        replace hx156_0 := (HB.out.cell (World.block_lt_of_cell? w _ hx156_0)).trans hx156_0
                        replace p156 := eq_true p156
                        replace q156 := eq_true q156
                        have p21 : 0 ≤ (x15_1 : Int) := of_decide_eq_true (by first | (with_reducible assumption) | assumption)
                        have q21 : (x15_1 : Int) < ((x10_1.length : Int) : Int) := of_decide_eq_true (by first | (with_reducible assumption) | assumption)
                        obtain ⟨go21, co21, eo21, gb21, gl21, cl21, HG21⟩ := Kd.R_form HO_10.out (by omega)
                        (first | cases eo21 | (injection eo21 with ea_ en_ ec_; (first | subst ea_ | (injection ea_ with ea_; subst ea_)); subst ec_; clear en_))
                        have GB21 := Aside0.mk gb21
                        have GG21 := Aside0.mk HG21
                        clear gb21 gl21 HG21
                        obtain ⟨hx21_0, hf21_0⟩ := Kd.R_celln 0 HO_10.out (x15_1 : Int) p21 q21
                        replace p21 := eq_true p21
                        replace q21 := eq_true q21
                        have HP23 := Kd.R_putn HO_10.out (x15_1 : Int) (Int.tmod (wrap64 (rd l2 x15_1)) (wrap64 ((wrap64 (2 + (wrap64 (Int.tmod a1 15)))) + 1)))
                        rw [← Ny157.out] at HP23
                        have HQ23 := Aside0.mk HP23
                        clear HP23
                        refine start_ (n := 13) (S := fun w' => w'.cell? ⟨gb152, 0, none⟩ = some (.int .i64 ji5) ∧ w'.cell? ⟨gb152, 1, none⟩ = some (.int .i64 (wrap64 (2 + (wrap64 (Int.tmod a1 15))))) ∧ w'.cell? (ad156.add (x15_1).toNat) = some (.int .u8 (rd l2 x15_1))) (ds := [12]) #[false, false, false, false, false, false, false, false, false, false, false, false, false] (by kernel_rfl) rfl rfl ⟨(blk_cell BK152.out 0).trans rfl, (blk_cell BK152.out 1).trans rfl, ((HB.out.cell (World.block_lt_of_cell? w _ hw156_0)).trans hw156_0)⟩ (fun hHeld => ?_); refine with_tabW stopcocklaw12_ChooserSpread.tab10 stopcocklaw12_ChooserSpread.bits10 (fun HT_ HW_ => ?_)
                        generalize wr.drew = w22 at HO_10 BK152 HB GG21 HQ23 hf21_0 hx156_0 hx21_0 hHeld ⊢
                        refine pure_ (i := 0) (N := some 51) (v := ?_) (a' := ?_) #[true, false, false, false, false, false, false, false, false, false, false, false, false] rfl rfl (any_of HT_.out (by kernel_rfl)) (fun _ _ _ h => h) (Or.inl ⟨by rfl, ?_⟩) ?_ ?_
                        rotate_left
                        · intro w'
                          go_simp
                          with_reducible rfl
                        rotate_left
                        · simp only [Act.put, List.setIfInBounds_toArray, List.set_cons_zero, List.set_cons_succ, i64_w, i32_w]
                          rfl
                        refine pure_ (i := 1) (N := some 52) (v := ?_) (a' := ?_) #[true, true, false, false, false, false, false, false, false, false, false, false, false] rfl rfl (any_of HT_.out (by kernel_rfl)) (fun _ _ _ h => h) (Or.inl ⟨by rfl, ?_⟩) ?_ ?_
                        rotate_left
                        · intro w'
                          go_simp
                          with_reducible rfl
                        rotate_left
                        · simp only [Act.put, List.setIfInBounds_toArray, List.set_cons_zero, List.set_cons_succ, i64_w, i32_w]
                          rfl
                        refine pure_ (i := 2) (N := some 53) (v := ?_) (a' := ?_) #[true, true, true, false, false, false, false, false, false, false, false, false, false] rfl rfl (any_of HT_.out (by kernel_rfl)) (fun _ _ _ h => h) (Or.inl ⟨by rfl, ?_⟩) ?_ ?_
                        rotate_left
                        · intro w'
                          go_simp
                          with_reducible rfl
                        rotate_left
                        · simp only [Act.put, List.setIfInBounds_toArray, List.set_cons_zero, List.set_cons_succ, i64_w, i32_w]
                          rfl
                        refine pure_ (i := 3) (N := some 54) (v := ?_) (a' := ?_) #[true, true, true, true, false, false, false, false, false, false, false, false, false] rfl rfl (any_of HT_.out (by kernel_rfl)) (fun _ _ _ h => h) (Or.inl ⟨by rfl, ?_⟩) ?_ ?_
                        rotate_left
                        · intro w'
                          go_simp
                          with_reducible rfl
                        rotate_left
                        · simp only [Act.put, List.setIfInBounds_toArray, List.set_cons_zero, List.set_cons_succ, i64_w, i32_w]
                          rfl
                        refine pure_ (i := 4) (N := some 55) (v := ?_) (a' := ?_) #[true, true, true, true, true, false, false, false, false, false, false, false, false] rfl rfl (any_of HT_.out (by kernel_rfl)) (fun _ _ _ h => h) (Or.inl ⟨by rfl, ?_⟩) ?_ ?_
                        rotate_left
                        · intro w'
                          go_simp
                          with_reducible rfl
                        rotate_left
                        · simp only [Act.put, List.setIfInBounds_toArray, List.set_cons_zero, List.set_cons_succ, i64_w, i32_w]
                          rfl
                        refine pure_ (i := 7) (N := some 58) (v := ?_) (a' := ?_) #[true, true, true, true, true, false, false, true, false, false, false, false, false] rfl rfl (any_of HT_.out (by kernel_rfl)) (fun _ _ _ h => h) (Or.inl ⟨by rfl, ?_⟩) ?_ ?_
                        rotate_left
                        · intro w'
                          go_simp
                          with_reducible rfl
                        rotate_left
                        · simp only [Act.put, List.setIfInBounds_toArray, List.set_cons_zero, List.set_cons_succ, i64_w, i32_w]
                          rfl
                        refine take_ (i := 5) (N := some 56) (v := ?_) (a' := ?_) #[true, true, true, true, true, true, false, true, false, false, false, false, false] rfl rfl (take_ofW HT_.out HW_.out (by kernel_rfl)) (fun _ _ _ h => h) (Or.inl ⟨by rfl, ?_⟩) hHeld ?_ ?_
                        rotate_left
                        · rintro w' ⟨s0, s1, s2⟩
                          go_simp
                          with_reducible rfl
                        rotate_left
                        · simp only [Act.put, List.setIfInBounds_toArray, List.set_cons_zero, List.set_cons_succ, i64_w, i32_w]
                          rfl
                        refine pure_ (i := 6) (N := some 57) (v := ?_) (a' := ?_) #[true, true, true, true, true, true, true, true, false, false, false, false, false] rfl rfl (any_of HT_.out (by kernel_rfl)) (fun _ _ _ h => h) (Or.inl ⟨by rfl, ?_⟩) ?_ ?_
                        rotate_left
                        · intro w'
                          go_simp
                          with_reducible rfl
                        rotate_left
                        · simp only [Act.put, List.setIfInBounds_toArray, List.set_cons_zero, List.set_cons_succ, i64_w, i32_w]
                          rfl
                        refine take_ (i := 8) (N := some 59) (v := ?_) (a' := ?_) #[true, true, true, true, true, true, true, true, true, false, false, false, false] rfl rfl (take_ofW HT_.out HW_.out (by kernel_rfl)) (fun _ _ _ h => h) (Or.inl ⟨by rfl, ?_⟩) hHeld ?_ ?_
                        rotate_left
                        · rintro w' ⟨s0, s1, s2⟩
                          go_simp
                          with_reducible rfl
                        rotate_left
                        · simp only [Act.put, List.setIfInBounds_toArray, List.set_cons_zero, List.set_cons_succ, i64_w, i32_w]
                          rfl
                        refine pure_ (i := 9) (N := some 60) (v := ?_) (a' := ?_) #[true, true, true, true, true, true, true, true, true, true, false, false, false] rfl rfl (any_of HT_.out (by kernel_rfl)) (fun _ _ _ h => h) (Or.inl ⟨by rfl, ?_⟩) ?_ ?_
                        rotate_left
                        · intro w'
                          go_simp
                          with_reducible rfl
                        rotate_left
                        · simp only [Act.put, List.setIfInBounds_toArray, List.set_cons_zero, List.set_cons_succ, i64_w, i32_w]
                          rfl
                        refine pure_ (i := 10) (N := some 61) (v := ?_) (a' := ?_) #[true, true, true, true, true, true, true, true, true, true, true, false, false] rfl rfl (any_of HT_.out (by kernel_rfl)) (fun _ _ _ h => h) (Or.inl ⟨by rfl, ?_⟩) ?_ ?_
                        rotate_left
                        · intro w'
                          go_simp
                          with_reducible rfl
                        rotate_left
                        · simp only [Act.put, List.setIfInBounds_toArray, List.set_cons_zero, List.set_cons_succ, i64_w, i32_w]
                          rfl
                        refine pure_ (i := 11) (N := some 62) (v := ?_) (a' := ?_) #[true, true, true, true, true, true, true, true, true, true, true, true, false] rfl rfl (any_of HT_.out (by kernel_rfl)) (fun _ _ _ h => h) (Or.inl ⟨by rfl, ?_⟩) ?_ ?_
                        rotate_left
                        · intro w'
                          go_simp
                          with_reducible rfl
                        rotate_left
                        · simp only [Act.put, List.setIfInBounds_toArray, List.set_cons_zero, List.set_cons_succ, i64_w, i32_w]
                          rfl
                        refine last_ (i := 12) (N := none) #[true, true, true, true, true, true, true, true, true, true, true, true, true] rfl rfl (one_of HT_.out (by kernel_rfl)) (by decide) (fun K hK => ?_)
                        refine skip_ (w1 := ?_) (by rfl) rfl ?_ ?_
                        rotate_left
                        · go_simp
                          rfl
                        refine hK.out _ _ ?_
                        clear hK K
                        refine done_ (done_of HT_.out (by kernel_rfl)) ?_
                        try go_wp2
                        go_meet
                        case rel => exact ⟨_, (y157), H', ⟨by have := HK1.out; first | omega | exact Nat.le_refl _⟩, ⟨by (with_reducible repeat (first | apply Kd.R_alloc | apply Kd.R_drewN | apply Kd.R_drew)); exact HQ23.out⟩, ⟨by (with_reducible repeat (first | refine blk_drewN ?_ _ | refine blk_drew ?_ | refine blk_alloc ?_ _)); refine blk_far ?_ (by have h_ := Kd.R_ne HO_10.out BK152.out (by decide); intro e_; exact h_ (by rw [e_]; rfl)) _; (with_reducible repeat (first | refine blk_drewN ?_ _ | refine blk_drew ?_ | refine blk_alloc ?_ _)); exact BK152.out⟩, ⟨by repeat (first | (with_reducible first | exact HB.out | apply below_alloc | apply pw_below_drewN | apply below_drew1 | refine below_set ?_ GB21.out | refine below_set ?_ GE152.out) | exact HB.out)⟩⟩
                      · rw [if_neg c20] at H
                        exact absurd H (by simp)
                  · rw [if_neg c18] at H
                    exact absurd H (by simp)
                · rw [if_neg c17] at H
                  have c17b0 : decide (x15_1 < (l2.length : Int)) = false := decide_eq_false c17
                  clear c17
                  (first | rw [c17b0] | (simp only [i64_w, i32_w]; rw [c17b0]) | skip)
                  have H' := Aside0.mk H
                  clear H
                  go_wp2
                  go_meet
                  case rel => exact ⟨_, (x10_1), H', ⟨by have := HK1.out; first | omega | exact Nat.le_refl _⟩, ⟨by (with_reducible repeat (first | apply Kd.R_alloc | apply Kd.R_drewN | apply Kd.R_drew)); exact HO_10.out⟩, ⟨by (with_reducible repeat (first | refine blk_drewN ?_ _ | refine blk_drew ?_ | refine blk_alloc ?_ _)); exact BK152.out⟩, ⟨by repeat (first | (with_reducible first | exact HB.out | apply below_alloc | apply pw_below_drewN | apply below_drew1 | refine below_set ?_ GE152.out) | exact HB.out)⟩⟩
              case rest =>
                clear HC15
                try clear c1
                try clear p1
                try clear q1
                try clear hx1
                try clear c2
                try clear p2
                try clear q2
                try clear hx2
                try clear c6
                try clear c6b0
                try clear c6b1
                try clear p6
                try clear c7
                try clear c7b0
                try clear c7b1
                try clear c8
                try clear c8b0
                try clear c8b1
                try clear c13
                try clear c14
                try clear c14b0
                try clear p15
                try clear q15
                try clear hx15
                try clear c17
                try clear c17b0
                try clear c18
                try clear c18b0
                try clear c19
                try clear c19b0
                try clear c19b1
                try clear c20
                try clear c20b0
                try clear p21
                try clear q21
                try clear hx21
                try clear hf21
                try clear hcz10_0
                try clear hcz10_1
                try clear hcz13_0
                try clear hcz13_1
                try clear hcz16_0
                try clear hcz16_1
                try clear hfz10_0
                try clear hfz10_1
                try clear hfz13_0
                try clear hfz13_1
                try clear hfz16_0
                try clear hfz16_1
                try clear hx156_0
                try clear hx21_0
                try clear p156
                try clear p2
                try clear p21
                try clear p6
                try clear q156
                try clear q21
                obtain ⟨kq, x10_14, HA, HJ14, HO_10, BK152, HB⟩ := hcut
                cases kq with
                | zero => exact absurd HA.out (by simp [stopcocklaw12_ChooserSpread.j1])
                | succ kj14 =>
                  have H := HA.out
                  clear HA
                  simp only [stopcocklaw12_ChooserSpread.j1] at H
                  by_cases c24 : 0 ≤ x15_1
                  · rw [if_pos c24] at H
                    have c24b0 : decide (0 ≤ x15_1) = true := decide_eq_true c24
                    clear c24
                    by_cases c25 : x15_1 < (x10_14.length : Int)
                    · rw [if_pos c25] at H
                      have c25b0 : decide (x15_1 < (x10_14.length : Int)) = true := decide_eq_true c25
                      clear c25
                      by_cases c26 : (wrap64 (x11_1 + (rd x10_14 x15_1))) > (wrap64 ((wrap64 ((ji5) - 4)) * (wrap64 (2 + (wrap64 (Int.tmod a1 15))))))
                      · rw [if_pos c26] at H
                        have c26b0 : decide ((wrap64 ((wrap64 ((ji5) - 4)) * (wrap64 (2 + (wrap64 (Int.tmod a1 15)))))) < (wrap64 (x11_1 + (rd x10_14 x15_1)))) = true := decide_eq_true c26
                        clear c26
                        obtain ⟨y159, hy159⟩ : ∃ y_ : List Int, y_ = (x10_14.set (x15_1 : Int).toNat (wrap64 ((wrap64 ((wrap64 ((ji5) - 4)) * (wrap64 (2 + (wrap64 (Int.tmod a1 15)))))) - x11_1))) := ⟨_, rfl⟩
                        replace H : (if (rd y159 x15_1) = 0 then (if x15_1 = (Int.tmod (wrap64 (a3)) (ji5)) then (stopcocklaw12_ChooserSpread.l0 kj14 l2 y159 (wrap64 (x11_1 + (rd y159 x15_1))) x12_1 (wrap64 ((wrap64 ((ji5) - 4)) * (wrap64 (2 + (wrap64 (Int.tmod a1 15)))))) (Int.tmod (wrap64 (a3)) (ji5)) (wrap64 (x15_1 + 1)) ji5 (wrap64 (2 + (wrap64 (Int.tmod a1 15))))) else (stopcocklaw12_ChooserSpread.l0 kj14 l2 y159 (wrap64 (x11_1 + (rd y159 x15_1))) (wrap64 (x12_1 + 1)) (wrap64 ((wrap64 ((ji5) - 4)) * (wrap64 (2 + (wrap64 (Int.tmod a1 15)))))) (Int.tmod (wrap64 (a3)) (ji5)) (wrap64 (x15_1 + 1)) ji5 (wrap64 (2 + (wrap64 (Int.tmod a1 15)))))) else (stopcocklaw12_ChooserSpread.l0 kj14 l2 y159 (wrap64 (x11_1 + (rd y159 x15_1))) x12_1 (wrap64 ((wrap64 ((ji5) - 4)) * (wrap64 (2 + (wrap64 (Int.tmod a1 15)))))) (Int.tmod (wrap64 (a3)) (ji5)) (wrap64 (x15_1 + 1)) ji5 (wrap64 (2 + (wrap64 (Int.tmod a1 15)))))) = some r := by first | (rw [hy159]; with_reducible exact H) | (have H2_ := (Option.bind_some _ _).symm.trans H; rw [hy159]; with_reducible exact H2_) | (have H2_ := (Option.bind_some _ _).symm.trans H; with_reducible exact H2_) | with_reducible exact H | (rw [hy159]; exact H) | exact H
                        have Ny159 := Aside0.mk hy159
                        clear hy159
                        by_cases c28 : (rd y159 x15_1) = 0
                        · rw [if_pos c28] at H
                          have c28b0 : ((rd y159 x15_1) == 0) = true := beq_iff_eq.mpr c28
                          have c28b1 : ((rd y159 x15_1) != 0) = false := bne_eq_false_iff_eq.mpr c28
                          clear c28
                          by_cases c29 : x15_1 = (Int.tmod (wrap64 (a3)) (ji5))
                          · rw [if_pos c29] at H
                            have c29b0 : (x15_1 == (Int.tmod (wrap64 (a3)) (ji5))) = true := beq_iff_eq.mpr c29
                            have c29b1 : (x15_1 != (Int.tmod (wrap64 (a3)) (ji5))) = false := bne_eq_false_iff_eq.mpr c29
                            clear c29
                            have H' := Aside0.mk H
                            clear H
                            obtain ⟨Ao30, co30, eo30⟩ := Kd.R_slice HO_10.out
                            subst eo30
                            have p158 : 0 ≤ (x15_1 : Int) := of_decide_eq_true (by first | (with_reducible assumption) | assumption)
                            have q158 : x15_1 < (x10_14.length : Int) := of_decide_eq_true (by first | (with_reducible assumption) | assumption)
                            obtain ⟨ad158, e158, hx158_0⟩ := Kd.at_int (Kd.R_reads' HO_10.out).2.2 x15_1 p158 q158
                            cases e158
                            replace p158 := eq_true p158
                            replace q158 := eq_true q158
                            have p27 : 0 ≤ (x15_1 : Int) := of_decide_eq_true (by first | (with_reducible assumption) | assumption)
                            have q27 : (x15_1 : Int) < ((x10_14.length : Int) : Int) := of_decide_eq_true (by first | (with_reducible assumption) | assumption)
                            obtain ⟨go27, co27, eo27, gb27, gl27, cl27, HG27⟩ := Kd.R_form HO_10.out (by omega)
                            (first | cases eo27 | (injection eo27 with ea_ en_ ec_; (first | subst ea_ | (injection ea_ with ea_; subst ea_)); subst ec_; clear en_))
                            have GB27 := Aside0.mk gb27
                            have GG27 := Aside0.mk HG27
                            clear gb27 gl27 HG27
                            (first | simp only [add_plain] at hx158_0 | skip)
                            obtain ⟨hx27_0, hf27_0⟩ := Kd.R_celln 0 HO_10.out (x15_1 : Int) p27 q27
                            replace p27 := eq_true p27
                            replace q27 := eq_true q27
                            have HP31 := Kd.R_putg HO_10.out (x15_1 : Int) (wrap64 ((wrap64 ((wrap64 ((ji5) - 4)) * (wrap64 (2 + (wrap64 (Int.tmod a1 15)))))) - x11_1))
                            go_wp2_with (first | ((with_reducible refine gate_store (t := 3) (p := 76) rfl ?_); refine store_event (t := 3) (p := 76) (v := ?vo_w32) (w1 := (wc.setCell ⟨go27, (x15_1 : Int).toNat, none⟩ (.int .i64 (wrap64 ((wrap64 ((wrap64 ((ji5) - 4)) * (wrap64 (2 + (wrap64 (Int.tmod a1 15)))))) - x11_1))))) ?hg ?ho ?hn ?hr ?_; (case ho => rfl); (case hg => rfl); (case hn => rfl); (case hr => first | (go_simp; done) | (go_simp; rfl)); intro w32 hw; have hg : wc.grownBy w32 (some go27) := (by rw [hw]; exact HP31.2); have hp_ : Kd.R (Kd.int .i64) 3 w32 w.heap.size (fun _ => True) (.slice (some ⟨go27, 0, none⟩) x10_14.length co30) y159 := (by rw [hw, Ny159.out]; exact HP31.1); clear HP31; have n0_ := Aside0.mk (hp_); have n1_ := Aside0.mk (blk_grown (g := gb152) (o := .cells #[.int .i64 ji5, .int .i64 (wrap64 (2 + (wrap64 (Int.tmod a1 15))))] 39 (0, 0)) (by (with_reducible repeat (first | refine blk_drewN ?_ _ | refine blk_drew ?_ | refine blk_alloc ?_ _)); exact BK152.out) hg (Kd.R_ne HO_10.out BK152.out (by decide))); have n2_ := Aside0.mk ((by rw [hw]; exact below_set (HB.out) GB27.out : Below w.heap.size w w32)); clear HO_10; clear BK152; clear HB; have HO_10 := n0_; have BK152 := n1_; have HB := n2_; clear n0_ n1_ n2_; clear hg hw hp_; have p160 : 0 ≤ (x15_1 : Int) := of_decide_eq_true (by first | (with_reducible assumption) | assumption); have q160 : x15_1 < (y159.length : Int) := (by have h_ : (x15_1 : Int) < ((x10_14.length : Int) : Int) := of_decide_eq_true (by first | (with_reducible assumption) | assumption); first | (have e_ := (Kd.R_reads' HO_10.out).1; omega) | simpa only [Ny159.out, List.length_set] using h_); have ql160 : ((x15_1 : Int) < ((x10_14.length : Int) : Int)) = True := eq_true (of_decide_eq_true (by first | (with_reducible assumption) | assumption)); obtain ⟨ad160, e160, hx160_0⟩ := Kd.at_int (Kd.R_reads' HO_10.out).2.2 x15_1 p160 q160; obtain rfl : (⟨go27, 0, none⟩ : Addr) = ad160 := (by injection e160); (first | simp only [add_plain] at hx160_0 | simp only [add_at] at hx160_0 | simp only [Addr.add, Nat.zero_add] at hx160_0 | skip); replace p160 := eq_true p160; replace q160 := eq_true q160; have p161 : 0 ≤ (x15_1 : Int) := of_decide_eq_true (by first | (with_reducible assumption) | assumption); have q161 : x15_1 < (y159.length : Int) := (by have h_ : (x15_1 : Int) < ((x10_14.length : Int) : Int) := of_decide_eq_true (by first | (with_reducible assumption) | assumption); first | (have e_ := (Kd.R_reads' HO_10.out).1; omega) | simpa only [Ny159.out, List.length_set] using h_); have ql161 : ((x15_1 : Int) < ((x10_14.length : Int) : Int)) = True := eq_true (of_decide_eq_true (by first | (with_reducible assumption) | assumption)); obtain ⟨ad161, e161, hx161_0⟩ := Kd.at_int (Kd.R_reads' HO_10.out).2.2 x15_1 p161 q161; obtain rfl : (⟨go27, 0, none⟩ : Addr) = ad161 := (by injection e161); (first | simp only [add_plain] at hx161_0 | simp only [add_at] at hx161_0 | simp only [Addr.add, Nat.zero_add] at hx161_0 | skip); replace p161 := eq_true p161; replace q161 := eq_true q161))
                            go_roundg kj14
                            case measure => have := HK1.out; have := HJ14.out; omega
                            case rel => exact ⟨(y159), (wrap64 (x11_1 + (rd y159 x15_1))), (x12_1), (wrap64 (x15_1 + 1)), (by first | rfl | (simp; done) | (simp [*]; done)), (by first | rfl | (simp; done) | (simp [*]; done)), (by first | rfl | (simp; done) | (simp [*]; done)), H', ⟨by have := HK1.out; have := HJ14.out; omega⟩, ⟨by (with_reducible repeat (first | apply Kd.R_alloc | apply Kd.R_drewN | apply Kd.R_drew)); exact HO_10.out⟩, ⟨by (with_reducible repeat (first | refine blk_drewN ?_ _ | refine blk_drew ?_ | refine blk_alloc ?_ _)); exact BK152.out⟩, ⟨by repeat (first | (with_reducible first | exact HB.out | apply below_alloc | apply pw_below_drewN | apply below_drew1 | refine below_set ?_ GE152.out) | exact HB.out)⟩⟩
                          · rw [if_neg c29] at H
                            have c29b0 : (x15_1 == (Int.tmod (wrap64 (a3)) (ji5))) = false := beq_eq_false_iff_ne.mpr c29
                            have c29b1 : (x15_1 != (Int.tmod (wrap64 (a3)) (ji5))) = true := bne_iff_ne.mpr c29
                            have H' := Aside0.mk H
                            clear H
                            obtain ⟨Ao33, co33, eo33⟩ := Kd.R_slice HO_10.out
                            subst eo33
                            have p158 : 0 ≤ (x15_1 : Int) := of_decide_eq_true (by first | (with_reducible assumption) | assumption)
                            have q158 : x15_1 < (x10_14.length : Int) := of_decide_eq_true (by first | (with_reducible assumption) | assumption)
                            obtain ⟨ad158, e158, hx158_0⟩ := Kd.at_int (Kd.R_reads' HO_10.out).2.2 x15_1 p158 q158
                            cases e158
                            replace p158 := eq_true p158
                            replace q158 := eq_true q158
                            have p27 : 0 ≤ (x15_1 : Int) := of_decide_eq_true (by first | (with_reducible assumption) | assumption)
                            have q27 : (x15_1 : Int) < ((x10_14.length : Int) : Int) := of_decide_eq_true (by first | (with_reducible assumption) | assumption)
                            obtain ⟨go27, co27, eo27, gb27, gl27, cl27, HG27⟩ := Kd.R_form HO_10.out (by omega)
                            (first | cases eo27 | (injection eo27 with ea_ en_ ec_; (first | subst ea_ | (injection ea_ with ea_; subst ea_)); subst ec_; clear en_))
                            have GB27 := Aside0.mk gb27
                            have GG27 := Aside0.mk HG27
                            clear gb27 gl27 HG27
                            (first | simp only [add_plain] at hx158_0 | skip)
                            obtain ⟨hx27_0, hf27_0⟩ := Kd.R_celln 0 HO_10.out (x15_1 : Int) p27 q27
                            replace p27 := eq_true p27
                            replace q27 := eq_true q27
                            have HP34 := Kd.R_putg HO_10.out (x15_1 : Int) (wrap64 ((wrap64 ((wrap64 ((ji5) - 4)) * (wrap64 (2 + (wrap64 (Int.tmod a1 15)))))) - x11_1))
                            go_wp2_with (first | ((with_reducible refine gate_store (t := 3) (p := 76) rfl ?_); refine store_event (t := 3) (p := 76) (v := ?vo_w35) (w1 := (wc.setCell ⟨go27, (x15_1 : Int).toNat, none⟩ (.int .i64 (wrap64 ((wrap64 ((wrap64 ((ji5) - 4)) * (wrap64 (2 + (wrap64 (Int.tmod a1 15)))))) - x11_1))))) ?hg ?ho ?hn ?hr ?_; (case ho => rfl); (case hg => rfl); (case hn => rfl); (case hr => first | (go_simp; done) | (go_simp; rfl)); intro w35 hw; have hg : wc.grownBy w35 (some go27) := (by rw [hw]; exact HP34.2); have hp_ : Kd.R (Kd.int .i64) 3 w35 w.heap.size (fun _ => True) (.slice (some ⟨go27, 0, none⟩) x10_14.length co33) y159 := (by rw [hw, Ny159.out]; exact HP34.1); clear HP34; have n0_ := Aside0.mk (hp_); have n1_ := Aside0.mk (blk_grown (g := gb152) (o := .cells #[.int .i64 ji5, .int .i64 (wrap64 (2 + (wrap64 (Int.tmod a1 15))))] 39 (0, 0)) (by (with_reducible repeat (first | refine blk_drewN ?_ _ | refine blk_drew ?_ | refine blk_alloc ?_ _)); exact BK152.out) hg (Kd.R_ne HO_10.out BK152.out (by decide))); have n2_ := Aside0.mk ((by rw [hw]; exact below_set (HB.out) GB27.out : Below w.heap.size w w35)); clear HO_10; clear BK152; clear HB; have HO_10 := n0_; have BK152 := n1_; have HB := n2_; clear n0_ n1_ n2_; clear hg hw hp_; have p160 : 0 ≤ (x15_1 : Int) := of_decide_eq_true (by first | (with_reducible assumption) | assumption); have q160 : x15_1 < (y159.length : Int) := (by have h_ : (x15_1 : Int) < ((x10_14.length : Int) : Int) := of_decide_eq_true (by first | (with_reducible assumption) | assumption); first | (have e_ := (Kd.R_reads' HO_10.out).1; omega) | simpa only [Ny159.out, List.length_set] using h_); have ql160 : ((x15_1 : Int) < ((x10_14.length : Int) : Int)) = True := eq_true (of_decide_eq_true (by first | (with_reducible assumption) | assumption)); obtain ⟨ad160, e160, hx160_0⟩ := Kd.at_int (Kd.R_reads' HO_10.out).2.2 x15_1 p160 q160; obtain rfl : (⟨go27, 0, none⟩ : Addr) = ad160 := (by injection e160); (first | simp only [add_plain] at hx160_0 | simp only [add_at] at hx160_0 | simp only [Addr.add, Nat.zero_add] at hx160_0 | skip); replace p160 := eq_true p160; replace q160 := eq_true q160; have p161 : 0 ≤ (x15_1 : Int) := of_decide_eq_true (by first | (with_reducible assumption) | assumption); have q161 : x15_1 < (y159.length : Int) := (by have h_ : (x15_1 : Int) < ((x10_14.length : Int) : Int) := of_decide_eq_true (by first | (with_reducible assumption) | assumption); first | (have e_ := (Kd.R_reads' HO_10.out).1; omega) | simpa only [Ny159.out, List.length_set] using h_); have ql161 : ((x15_1 : Int) < ((x10_14.length : Int) : Int)) = True := eq_true (of_decide_eq_true (by first | (with_reducible assumption) | assumption)); obtain ⟨ad161, e161, hx161_0⟩ := Kd.at_int (Kd.R_reads' HO_10.out).2.2 x15_1 p161 q161; obtain rfl : (⟨go27, 0, none⟩ : Addr) = ad161 := (by injection e161); (first | simp only [add_plain] at hx161_0 | simp only [add_at] at hx161_0 | simp only [Addr.add, Nat.zero_add] at hx161_0 | skip); replace p161 := eq_true p161; replace q161 := eq_true q161))
                            go_roundg kj14
                            case measure => have := HK1.out; have := HJ14.out; omega
                            case rel => exact ⟨(y159), (wrap64 (x11_1 + (rd y159 x15_1))), (wrap64 (x12_1 + 1)), (wrap64 (x15_1 + 1)), (by first | rfl | (simp; done) | (simp [*]; done)), (by first | rfl | (simp; done) | (simp [*]; done)), (by first | rfl | (simp; done) | (simp [*]; done)), H', ⟨by have := HK1.out; have := HJ14.out; omega⟩, ⟨by (with_reducible repeat (first | apply Kd.R_alloc | apply Kd.R_drewN | apply Kd.R_drew)); exact HO_10.out⟩, ⟨by (with_reducible repeat (first | refine blk_drewN ?_ _ | refine blk_drew ?_ | refine blk_alloc ?_ _)); exact BK152.out⟩, ⟨by repeat (first | (with_reducible first | exact HB.out | apply below_alloc | apply pw_below_drewN | apply below_drew1 | refine below_set ?_ GE152.out) | exact HB.out)⟩⟩
                        · rw [if_neg c28] at H
                          have c28b0 : ((rd y159 x15_1) == 0) = false := beq_eq_false_iff_ne.mpr c28
                          have c28b1 : ((rd y159 x15_1) != 0) = true := bne_iff_ne.mpr c28
                          have H' := Aside0.mk H
                          clear H
                          obtain ⟨Ao36, co36, eo36⟩ := Kd.R_slice HO_10.out
                          subst eo36
                          have p158 : 0 ≤ (x15_1 : Int) := of_decide_eq_true (by first | (with_reducible assumption) | assumption)
                          have q158 : x15_1 < (x10_14.length : Int) := of_decide_eq_true (by first | (with_reducible assumption) | assumption)
                          obtain ⟨ad158, e158, hx158_0⟩ := Kd.at_int (Kd.R_reads' HO_10.out).2.2 x15_1 p158 q158
                          cases e158
                          replace p158 := eq_true p158
                          replace q158 := eq_true q158
                          have p27 : 0 ≤ (x15_1 : Int) := of_decide_eq_true (by first | (with_reducible assumption) | assumption)
                          have q27 : (x15_1 : Int) < ((x10_14.length : Int) : Int) := of_decide_eq_true (by first | (with_reducible assumption) | assumption)
                          obtain ⟨go27, co27, eo27, gb27, gl27, cl27, HG27⟩ := Kd.R_form HO_10.out (by omega)
                          (first | cases eo27 | (injection eo27 with ea_ en_ ec_; (first | subst ea_ | (injection ea_ with ea_; subst ea_)); subst ec_; clear en_))
                          have GB27 := Aside0.mk gb27
                          have GG27 := Aside0.mk HG27
                          clear gb27 gl27 HG27
                          (first | simp only [add_plain] at hx158_0 | skip)
                          obtain ⟨hx27_0, hf27_0⟩ := Kd.R_celln 0 HO_10.out (x15_1 : Int) p27 q27
                          replace p27 := eq_true p27
                          replace q27 := eq_true q27
                          have HP37 := Kd.R_putg HO_10.out (x15_1 : Int) (wrap64 ((wrap64 ((wrap64 ((ji5) - 4)) * (wrap64 (2 + (wrap64 (Int.tmod a1 15)))))) - x11_1))
                          go_wp2_with (first | ((with_reducible refine gate_store (t := 3) (p := 76) rfl ?_); refine store_event (t := 3) (p := 76) (v := ?vo_w38) (w1 := (wc.setCell ⟨go27, (x15_1 : Int).toNat, none⟩ (.int .i64 (wrap64 ((wrap64 ((wrap64 ((ji5) - 4)) * (wrap64 (2 + (wrap64 (Int.tmod a1 15)))))) - x11_1))))) ?hg ?ho ?hn ?hr ?_; (case ho => rfl); (case hg => rfl); (case hn => rfl); (case hr => first | (go_simp; done) | (go_simp; rfl)); intro w38 hw; have hg : wc.grownBy w38 (some go27) := (by rw [hw]; exact HP37.2); have hp_ : Kd.R (Kd.int .i64) 3 w38 w.heap.size (fun _ => True) (.slice (some ⟨go27, 0, none⟩) x10_14.length co36) y159 := (by rw [hw, Ny159.out]; exact HP37.1); clear HP37; have n0_ := Aside0.mk (hp_); have n1_ := Aside0.mk (blk_grown (g := gb152) (o := .cells #[.int .i64 ji5, .int .i64 (wrap64 (2 + (wrap64 (Int.tmod a1 15))))] 39 (0, 0)) (by (with_reducible repeat (first | refine blk_drewN ?_ _ | refine blk_drew ?_ | refine blk_alloc ?_ _)); exact BK152.out) hg (Kd.R_ne HO_10.out BK152.out (by decide))); have n2_ := Aside0.mk ((by rw [hw]; exact below_set (HB.out) GB27.out : Below w.heap.size w w38)); clear HO_10; clear BK152; clear HB; have HO_10 := n0_; have BK152 := n1_; have HB := n2_; clear n0_ n1_ n2_; clear hg hw hp_; have p160 : 0 ≤ (x15_1 : Int) := of_decide_eq_true (by first | (with_reducible assumption) | assumption); have q160 : x15_1 < (y159.length : Int) := (by have h_ : (x15_1 : Int) < ((x10_14.length : Int) : Int) := of_decide_eq_true (by first | (with_reducible assumption) | assumption); first | (have e_ := (Kd.R_reads' HO_10.out).1; omega) | simpa only [Ny159.out, List.length_set] using h_); have ql160 : ((x15_1 : Int) < ((x10_14.length : Int) : Int)) = True := eq_true (of_decide_eq_true (by first | (with_reducible assumption) | assumption)); obtain ⟨ad160, e160, hx160_0⟩ := Kd.at_int (Kd.R_reads' HO_10.out).2.2 x15_1 p160 q160; obtain rfl : (⟨go27, 0, none⟩ : Addr) = ad160 := (by injection e160); (first | simp only [add_plain] at hx160_0 | simp only [add_at] at hx160_0 | simp only [Addr.add, Nat.zero_add] at hx160_0 | skip); replace p160 := eq_true p160; replace q160 := eq_true q160; have p161 : 0 ≤ (x15_1 : Int) := of_decide_eq_true (by first | (with_reducible assumption) | assumption); have q161 : x15_1 < (y159.length : Int) := (by have h_ : (x15_1 : Int) < ((x10_14.length : Int) : Int) := of_decide_eq_true (by first | (with_reducible assumption) | assumption); first | (have e_ := (Kd.R_reads' HO_10.out).1; omega) | simpa only [Ny159.out, List.length_set] using h_); have ql161 : ((x15_1 : Int) < ((x10_14.length : Int) : Int)) = True := eq_true (of_decide_eq_true (by first | (with_reducible assumption) | assumption)); obtain ⟨ad161, e161, hx161_0⟩ := Kd.at_int (Kd.R_reads' HO_10.out).2.2 x15_1 p161 q161; obtain rfl : (⟨go27, 0, none⟩ : Addr) = ad161 := (by injection e161); (first | simp only [add_plain] at hx161_0 | simp only [add_at] at hx161_0 | simp only [Addr.add, Nat.zero_add] at hx161_0 | skip); replace p161 := eq_true p161; replace q161 := eq_true q161))
                          go_roundg kj14
                          case measure => have := HK1.out; have := HJ14.out; omega
                          case rel => exact ⟨(y159), (wrap64 (x11_1 + (rd y159 x15_1))), (x12_1), (wrap64 (x15_1 + 1)), (by first | rfl | (simp; done) | (simp [*]; done)), (by first | rfl | (simp; done) | (simp [*]; done)), (by first | rfl | (simp; done) | (simp [*]; done)), H', ⟨by have := HK1.out; have := HJ14.out; omega⟩, ⟨by (with_reducible repeat (first | apply Kd.R_alloc | apply Kd.R_drewN | apply Kd.R_drew)); exact HO_10.out⟩, ⟨by (with_reducible repeat (first | refine blk_drewN ?_ _ | refine blk_drew ?_ | refine blk_alloc ?_ _)); exact BK152.out⟩, ⟨by repeat (first | (with_reducible first | exact HB.out | apply below_alloc | apply pw_below_drewN | apply below_drew1 | refine below_set ?_ GE152.out) | exact HB.out)⟩⟩
                      · rw [if_neg c26] at H
                        have c26b0 : decide ((wrap64 ((wrap64 ((ji5) - 4)) * (wrap64 (2 + (wrap64 (Int.tmod a1 15)))))) < (wrap64 (x11_1 + (rd x10_14 x15_1)))) = false := decide_eq_false c26
                        clear c26
                        by_cases c39 : (rd x10_14 x15_1) = 0
                        · rw [if_pos c39] at H
                          have c39b0 : ((rd x10_14 x15_1) == 0) = true := beq_iff_eq.mpr c39
                          have c39b1 : ((rd x10_14 x15_1) != 0) = false := bne_eq_false_iff_eq.mpr c39
                          clear c39
                          by_cases c40 : x15_1 = (Int.tmod (wrap64 (a3)) (ji5))
                          · rw [if_pos c40] at H
                            have c40b0 : (x15_1 == (Int.tmod (wrap64 (a3)) (ji5))) = true := beq_iff_eq.mpr c40
                            have c40b1 : (x15_1 != (Int.tmod (wrap64 (a3)) (ji5))) = false := bne_eq_false_iff_eq.mpr c40
                            clear c40
                            have H' := Aside0.mk H
                            clear H
                            obtain ⟨Ao41, co41, eo41⟩ := Kd.R_slice HO_10.out
                            subst eo41
                            have p158 : 0 ≤ (x15_1 : Int) := of_decide_eq_true (by first | (with_reducible assumption) | assumption)
                            have q158 : x15_1 < (x10_14.length : Int) := of_decide_eq_true (by first | (with_reducible assumption) | assumption)
                            obtain ⟨ad158, e158, hx158_0⟩ := Kd.at_int (Kd.R_reads' HO_10.out).2.2 x15_1 p158 q158
                            cases e158
                            replace p158 := eq_true p158
                            replace q158 := eq_true q158
                            have p162 : 0 ≤ (x15_1 : Int) := of_decide_eq_true (by first | (with_reducible assumption) | assumption)
                            have q162 : x15_1 < (x10_14.length : Int) := of_decide_eq_true (by first | (with_reducible assumption) | assumption)
                            obtain ⟨ad162, e162, hx162_0⟩ := Kd.at_int (Kd.R_reads' HO_10.out).2.2 x15_1 p162 q162
                            obtain rfl : ad158 = ad162 := (by injection e162)
                            replace p162 := eq_true p162
                            replace q162 := eq_true q162
                            have p163 : 0 ≤ (x15_1 : Int) := of_decide_eq_true (by first | (with_reducible assumption) | assumption)
                            have q163 : x15_1 < (x10_14.length : Int) := of_decide_eq_true (by first | (with_reducible assumption) | assumption)
                            obtain ⟨ad163, e163, hx163_0⟩ := Kd.at_int (Kd.R_reads' HO_10.out).2.2 x15_1 p163 q163
                            obtain rfl : ad158 = ad163 := (by injection e163)
                            replace p163 := eq_true p163
                            replace q163 := eq_true q163
                            go_wp2
                            go_roundg kj14
                            case measure => have := HK1.out; have := HJ14.out; omega
                            case rel => exact ⟨(x10_14), (wrap64 (x11_1 + (rd x10_14 x15_1))), (x12_1), (wrap64 (x15_1 + 1)), (by first | rfl | (simp; done) | (simp [*]; done)), (by first | rfl | (simp; done) | (simp [*]; done)), (by first | rfl | (simp; done) | (simp [*]; done)), H', ⟨by have := HK1.out; have := HJ14.out; omega⟩, ⟨by (with_reducible repeat (first | apply Kd.R_alloc | apply Kd.R_drewN | apply Kd.R_drew)); exact HO_10.out⟩, ⟨by (with_reducible repeat (first | refine blk_drewN ?_ _ | refine blk_drew ?_ | refine blk_alloc ?_ _)); exact BK152.out⟩, ⟨by repeat (first | (with_reducible first | exact HB.out | apply below_alloc | apply pw_below_drewN | apply below_drew1 | refine below_set ?_ GE152.out) | exact HB.out)⟩⟩
                          · rw [if_neg c40] at H
                            have c40b0 : (x15_1 == (Int.tmod (wrap64 (a3)) (ji5))) = false := beq_eq_false_iff_ne.mpr c40
                            have c40b1 : (x15_1 != (Int.tmod (wrap64 (a3)) (ji5))) = true := bne_iff_ne.mpr c40
                            have H' := Aside0.mk H
                            clear H
                            obtain ⟨Ao42, co42, eo42⟩ := Kd.R_slice HO_10.out
                            subst eo42
                            have p158 : 0 ≤ (x15_1 : Int) := of_decide_eq_true (by first | (with_reducible assumption) | assumption)
                            have q158 : x15_1 < (x10_14.length : Int) := of_decide_eq_true (by first | (with_reducible assumption) | assumption)
                            obtain ⟨ad158, e158, hx158_0⟩ := Kd.at_int (Kd.R_reads' HO_10.out).2.2 x15_1 p158 q158
                            cases e158
                            replace p158 := eq_true p158
                            replace q158 := eq_true q158
                            have p162 : 0 ≤ (x15_1 : Int) := of_decide_eq_true (by first | (with_reducible assumption) | assumption)
                            have q162 : x15_1 < (x10_14.length : Int) := of_decide_eq_true (by first | (with_reducible assumption) | assumption)
                            obtain ⟨ad162, e162, hx162_0⟩ := Kd.at_int (Kd.R_reads' HO_10.out).2.2 x15_1 p162 q162
                            obtain rfl : ad158 = ad162 := (by injection e162)
                            replace p162 := eq_true p162
                            replace q162 := eq_true q162
                            have p163 : 0 ≤ (x15_1 : Int) := of_decide_eq_true (by first | (with_reducible assumption) | assumption)
                            have q163 : x15_1 < (x10_14.length : Int) := of_decide_eq_true (by first | (with_reducible assumption) | assumption)
                            obtain ⟨ad163, e163, hx163_0⟩ := Kd.at_int (Kd.R_reads' HO_10.out).2.2 x15_1 p163 q163
                            obtain rfl : ad158 = ad163 := (by injection e163)
                            replace p163 := eq_true p163
                            replace q163 := eq_true q163
                            go_wp2
                            go_roundg kj14
                            case measure => have := HK1.out; have := HJ14.out; omega
                            case rel => exact ⟨(x10_14), (wrap64 (x11_1 + (rd x10_14 x15_1))), (wrap64 (x12_1 + 1)), (wrap64 (x15_1 + 1)), (by first | rfl | (simp; done) | (simp [*]; done)), (by first | rfl | (simp; done) | (simp [*]; done)), (by first | rfl | (simp; done) | (simp [*]; done)), H', ⟨by have := HK1.out; have := HJ14.out; omega⟩, ⟨by (with_reducible repeat (first | apply Kd.R_alloc | apply Kd.R_drewN | apply Kd.R_drew)); exact HO_10.out⟩, ⟨by (with_reducible repeat (first | refine blk_drewN ?_ _ | refine blk_drew ?_ | refine blk_alloc ?_ _)); exact BK152.out⟩, ⟨by repeat (first | (with_reducible first | exact HB.out | apply below_alloc | apply pw_below_drewN | apply below_drew1 | refine below_set ?_ GE152.out) | exact HB.out)⟩⟩
                        · rw [if_neg c39] at H
                          have c39b0 : ((rd x10_14 x15_1) == 0) = false := beq_eq_false_iff_ne.mpr c39
                          have c39b1 : ((rd x10_14 x15_1) != 0) = true := bne_iff_ne.mpr c39
                          have H' := Aside0.mk H
                          clear H
                          obtain ⟨Ao43, co43, eo43⟩ := Kd.R_slice HO_10.out
                          subst eo43
                          have p158 : 0 ≤ (x15_1 : Int) := of_decide_eq_true (by first | (with_reducible assumption) | assumption)
                          have q158 : x15_1 < (x10_14.length : Int) := of_decide_eq_true (by first | (with_reducible assumption) | assumption)
                          obtain ⟨ad158, e158, hx158_0⟩ := Kd.at_int (Kd.R_reads' HO_10.out).2.2 x15_1 p158 q158
                          cases e158
                          replace p158 := eq_true p158
                          replace q158 := eq_true q158
                          have p162 : 0 ≤ (x15_1 : Int) := of_decide_eq_true (by first | (with_reducible assumption) | assumption)
                          have q162 : x15_1 < (x10_14.length : Int) := of_decide_eq_true (by first | (with_reducible assumption) | assumption)
                          obtain ⟨ad162, e162, hx162_0⟩ := Kd.at_int (Kd.R_reads' HO_10.out).2.2 x15_1 p162 q162
                          obtain rfl : ad158 = ad162 := (by injection e162)
                          replace p162 := eq_true p162
                          replace q162 := eq_true q162
                          have p163 : 0 ≤ (x15_1 : Int) := of_decide_eq_true (by first | (with_reducible assumption) | assumption)
                          have q163 : x15_1 < (x10_14.length : Int) := of_decide_eq_true (by first | (with_reducible assumption) | assumption)
                          obtain ⟨ad163, e163, hx163_0⟩ := Kd.at_int (Kd.R_reads' HO_10.out).2.2 x15_1 p163 q163
                          obtain rfl : ad158 = ad163 := (by injection e163)
                          replace p163 := eq_true p163
                          replace q163 := eq_true q163
                          go_wp2
                          go_roundg kj14
                          case measure => have := HK1.out; have := HJ14.out; omega
                          case rel => exact ⟨(x10_14), (wrap64 (x11_1 + (rd x10_14 x15_1))), (x12_1), (wrap64 (x15_1 + 1)), (by first | rfl | (simp; done) | (simp [*]; done)), (by first | rfl | (simp; done) | (simp [*]; done)), (by first | rfl | (simp; done) | (simp [*]; done)), H', ⟨by have := HK1.out; have := HJ14.out; omega⟩, ⟨by (with_reducible repeat (first | apply Kd.R_alloc | apply Kd.R_drewN | apply Kd.R_drew)); exact HO_10.out⟩, ⟨by (with_reducible repeat (first | refine blk_drewN ?_ _ | refine blk_drew ?_ | refine blk_alloc ?_ _)); exact BK152.out⟩, ⟨by repeat (first | (with_reducible first | exact HB.out | apply below_alloc | apply pw_below_drewN | apply below_drew1 | refine below_set ?_ GE152.out) | exact HB.out)⟩⟩
                    · rw [if_neg c25] at H
                      exact absurd H (by simp)
                  · rw [if_neg c24] at H
                    exact absurd H (by simp)
            · rw [if_neg c14] at H
              have c14b0 : decide (x15_1 < ji5) = false := decide_eq_false c14
              clear c14
              by_cases c44 : 0 ≤ ji5
              · rw [if_pos c44] at H
                have c44b0 := eq_true c44
                have c44b1 : decide (0 ≤ ji5) = true := decide_eq_true c44
                clear c44
                by_cases c45 : (ji5 : Int).toNat ≤ 35184372088832
                · rw [if_pos c45] at H
                  have c45b0 := eq_true c45
                  have c45b1 : decide ((ji5 : Int).toNat ≤ 35184372088832) = true := decide_eq_true c45
                  clear c45
                  obtain ⟨y164, hy164⟩ : ∃ y_ : List Int, y_ = (List.replicate (ji5 : Int).toNat 0) := ⟨_, rfl⟩
                  replace H : ((chooser_Pick.f k1 ji5 (wrap64 (2 + (wrap64 (Int.tmod a1 15)))) x10_1 y164 (([(Int.tmod (wrap64 (a3)) (ji5))] : List Int))).bind fun bt170 => (if x12_1 > 2 then ((stopcocklaw12_awake.f k1).bind fun t172 => (if t172 = true then (if bt170.2 = 0 then (some true) else (some (bt170.2 == 4))) else (some false))) else ((stopcocklaw12_awake.f k1).bind fun t173 => (if t173 = true then (some (bt170.2 == 0)) else (some false))))) = some r := by first | (rw [hy164]; with_reducible exact H) | (have H2_ := (Option.bind_some _ _).symm.trans H; rw [hy164]; with_reducible exact H2_) | (have H2_ := (Option.bind_some _ _).symm.trans H; with_reducible exact H2_) | with_reducible exact H | (rw [hy164]; exact H) | exact H
                  have Ny164 := Aside0.mk hy164
                  clear hy164
                  obtain ⟨y167, hy167⟩ : ∃ y_ : List Int, y_ = (([(Int.tmod (wrap64 (a3)) (ji5))] : List Int)) := ⟨_, rfl⟩
                  replace H : ((chooser_Pick.f k1 ji5 (wrap64 (2 + (wrap64 (Int.tmod a1 15)))) x10_1 y164 y167).bind fun bt170 => (if x12_1 > 2 then ((stopcocklaw12_awake.f k1).bind fun t172 => (if t172 = true then (if bt170.2 = 0 then (some true) else (some (bt170.2 == 4))) else (some false))) else ((stopcocklaw12_awake.f k1).bind fun t173 => (if t173 = true then (some (bt170.2 == 0)) else (some false))))) = some r := by first | (rw [hy167]; with_reducible exact H) | (have H2_ := (Option.bind_some _ _).symm.trans H; rw [hy167]; with_reducible exact H2_) | (have H2_ := (Option.bind_some _ _).symm.trans H; with_reducible exact H2_) | with_reducible exact H | (rw [hy167]; exact H) | exact H
                  have Ny167 := Aside0.mk hy167
                  clear hy167
                  replace H := Option.bind_eq_some_iff.mp H
                  obtain ⟨⟨t170, t171⟩, A460, H⟩ := H
                  replace H : (if x12_1 > 2 then ((stopcocklaw12_awake.f k1).bind fun t172 => (if t172 = true then (if t171 = 0 then (some true) else (some (t171 == 4))) else (some false))) else ((stopcocklaw12_awake.f k1).bind fun t173 => (if t173 = true then (some (t171 == 0)) else (some false)))) = some r := H
                  have A46 := Aside0.mk A460
                  clear A460
                  by_cases c47 : x12_1 > 2
                  · rw [if_pos c47] at H
                    have c47b0 : decide (2 < x12_1) = true := decide_eq_true c47
                    clear c47
                    replace H := Option.bind_eq_some_iff.mp H
                    obtain ⟨t172, A480, H⟩ := H
                    replace H : (if t172 = true then (if t171 = 0 then (some true) else (some (t171 == 4))) else (some false)) = some r := H
                    have A48 := Aside0.mk A480
                    clear A480
                    by_cases c49 : t172 = true
                    · subst c49
                      have H1 : (if t171 = 0 then (some true) else (some (t171 == 4))) = some r := by rw [if_pos rfl] at H; exact H
                      clear H
                      have H := H1
                      clear H1
                      by_cases c50 : t171 = 0
                      · rw [if_pos c50] at H
                        have c50b0 : (t171 == 0) = true := beq_iff_eq.mpr c50
                        have c50b1 : (t171 != 0) = false := bne_eq_false_iff_eq.mpr c50
                        clear c50
                        obtain rfl := Option.some.inj H
                        have hcz51_0 : wr.cell? ⟨gb152, 0, none⟩ = some (.int .i64 ji5) := (blk_cell BK152.out 0).trans rfl
                        have hcz51_1 : wr.cell? ⟨gb152, 1, none⟩ = some (.int .i64 (wrap64 (2 + (wrap64 (Int.tmod a1 15))))) := (blk_cell BK152.out 1).trans rfl
                        have hfz51_0 := blk_frozen BK152.out 0
                        have hfz51_1 := blk_frozen BK152.out 1
                        obtain ⟨Ao52, co52, eo52⟩ := Kd.R_slice HO_10.out
                        subst eo52
                        try go_wp2
                        have n0_ := Aside0.mk (Kd.R_drew HO_10.out)
                        have n1_ := Aside0.mk (blk_drew BK152.out)
                        have n2_ := Aside0.mk (below_drew1 HB.out)
                        clear HO_10
                        clear BK152
                        clear HB
                        have HO_10 := n0_
                        have BK152 := n1_
                        have HB := n2_
                        clear n0_ n1_ n2_
                        refine start_ (n := 13) (S := fun w' => w'.cell? ⟨gb152, 0, none⟩ = some (.int .i64 ji5) ∧ w'.cell? ⟨gb152, 1, none⟩ = some (.int .i64 (wrap64 (2 + (wrap64 (Int.tmod a1 15)))))) (ds := []) #[false, false, false, false, false, false, false, false, false, false, false, false, false] (by kernel_rfl) rfl rfl ⟨(blk_cell BK152.out 0).trans rfl, (blk_cell BK152.out 1).trans rfl⟩ (fun hHeld => ?_); refine with_tabW stopcocklaw12_ChooserSpread.tab16 stopcocklaw12_ChooserSpread.bits16 (fun HT_ HW_ => ?_)
                        generalize wr.drew = w53 at HO_10 BK152 HB hHeld ⊢
                        refine pure_ (i := 1) (N := some 97) (v := ?_) (a' := ?_) #[false, true, false, false, false, false, false, false, false, false, false, false, false] rfl rfl (any_of HT_.out (by kernel_rfl)) (fun _ _ _ h => h) (Or.inl ⟨by rfl, ?_⟩) ?_ ?_
                        rotate_left
                        · intro w'
                          go_simp
                          with_reducible rfl
                        rotate_left
                        · simp only [Act.put, List.setIfInBounds_toArray, List.set_cons_zero, List.set_cons_succ, i64_w, i32_w]
                          rfl
                        refine pure_ (i := 2) (N := some 98) (v := ?_) (a' := ?_) #[false, true, true, false, false, false, false, false, false, false, false, false, false] rfl rfl (any_of HT_.out (by kernel_rfl)) (fun _ _ _ h => h) (Or.inl ⟨by rfl, ?_⟩) ?_ ?_
                        rotate_left
                        · intro w'
                          go_simp
                          with_reducible rfl
                        rotate_left
                        · simp only [Act.put, List.setIfInBounds_toArray, List.set_cons_zero, List.set_cons_succ, i64_w, i32_w]
                          rfl
                        refine pure_ (i := 5) (N := some 101) (v := ?_) (a' := ?_) #[false, true, true, false, false, true, false, false, false, false, false, false, false] rfl rfl (any_of HT_.out (by kernel_rfl)) (fun _ _ _ h => h) (Or.inl ⟨by rfl, ?_⟩) ?_ ?_
                        rotate_left
                        · intro w'
                          go_simp
                          with_reducible rfl
                        rotate_left
                        · simp only [Act.put, List.setIfInBounds_toArray, List.set_cons_zero, List.set_cons_succ, i64_w, i32_w]
                          rfl
                        refine take_ (i := 0) (N := some 96) (v := ?_) (a' := ?_) #[true, true, true, false, false, true, false, false, false, false, false, false, false] rfl rfl (take_ofW HT_.out HW_.out (by kernel_rfl)) (fun _ _ _ h => h) (Or.inl ⟨by rfl, ?_⟩) hHeld ?_ ?_
                        rotate_left
                        · rintro w' ⟨s0, s1⟩
                          go_simp
                          with_reducible rfl
                        rotate_left
                        · simp only [Act.put, List.setIfInBounds_toArray, List.set_cons_zero, List.set_cons_succ, i64_w, i32_w]
                          rfl
                        refine take_ (i := 3) (N := some 99) (v := ?_) (a' := ?_) #[true, true, true, true, false, true, false, false, false, false, false, false, false] rfl rfl (take_ofW HT_.out HW_.out (by kernel_rfl)) (fun _ _ _ h => h) (Or.inl ⟨by rfl, ?_⟩) hHeld ?_ ?_
                        rotate_left
                        · rintro w' ⟨s0, s1⟩
                          go_simp
                          with_reducible rfl
                        rotate_left
                        · simp only [Act.put, List.setIfInBounds_toArray, List.set_cons_zero, List.set_cons_succ, i64_w, i32_w]
                          rfl
                        refine join_ (σ := Value × Value) 6 #[true, true, true, true, true, true, true, false, false, false, false, false, false] (fun s_ => [(100, s_.1), (102, s_.2)]) (fun s_ w' => (w'.cell? ⟨gb152, 0, none⟩ = some (.int .i64 ji5) ∧ w'.cell? ⟨gb152, 1, none⟩ = some (.int .i64 (wrap64 (2 + (wrap64 (Int.tmod a1 15)))))) ∧ (Kd.R (Kd.int .i64) 3 w' w.heap.size (fun k_ => some k_ ≠ (s_.2 : Value).ownBlock ∧ some k_ ≠ (.slice Ao52 x10_1.length co52 : Value).ownBlock) s_.1 y164) ∧ (Kd.R (Kd.int .i64) 3 w' w.heap.size (fun k_ => some k_ ≠ (s_.1 : Value).ownBlock ∧ some k_ ≠ (.slice Ao52 x10_1.length co52 : Value).ownBlock) s_.2 y167) ∧ (Kd.R (Kd.int .i64) 3 w' w.heap.size (fun k_ => some k_ ≠ (s_.1 : Value).ownBlock ∧ some k_ ≠ (s_.2 : Value).ownBlock) (.slice Ao52 x10_1.length co52) x10_1) ∧ (w'.heap[gb152]? = some (.cells #[.int .i64 ji5, .int .i64 (wrap64 (2 + (wrap64 (Int.tmod a1 15))))] 39 (0, 0))) ∧ (Below w.heap.size w w')) ?_ ?_
                        rotate_left
                        · intro hCont
                          refine two_ (i := 4) (j := 6) (Ni := some 100) (Nj := some 102) #[true, true, true, true, true, true, false, false, false, false, false, false, false] #[true, true, true, true, false, true, true, false, false, false, false, false, false] rfl rfl rfl rfl (two_of HT_.out (by kernel_rfl)) (by decide) (by decide) (fun K hK => ?_) (fun K hK => ?_)
                          · skip
                            refine Kd.R_make_step (Kd.int .i64) _ 3 (by rfl) (N := 100) rfl 30 _ _ rfl ji5 rfl rfl Try.underlying30 (.int .i64 0) 8 info3 rfl (by decide) (by omega) 0 (ok := fun _ => True) (okp := fun _ => True) rfl (fun _ hk => hk) trivial (of_decide_eq_true (by first | (with_reducible assumption) | assumption)) (Nat.le_trans (Nat.mul_le_mul_right _ (of_decide_eq_true (by first | (with_reducible assumption) | assumption) : ji5.toNat ≤ 35184372088832)) (by omega)) (Below.refl _ _) (Nat.le_refl _) ?_
                            intro v165 w54 ho55 hb hg_ hnew_
                            clear hg_ hnew_
                            (first | rw [← Ny164.out] at ho55 | (simp only [Int.reduceToNat] at ho55; rw [← Ny164.out] at ho55))
                            have n0_ := Aside0.mk (Kd.R_elder' (by (with_reducible repeat (first | apply Kd.R_alloc | apply Kd.R_drewN | apply Kd.R_drew)); exact HO_10.out) (Kd.R_base ho55) hb)
                            have n1_ := Aside0.mk (Kd.R_lower (Kd.R_new' ho55 (Kd.R_lt (by (with_reducible repeat (first | apply Kd.R_alloc | apply Kd.R_drewN | apply Kd.R_drew)); exact HO_10.out))) (below_size (by repeat (first | (with_reducible first | exact HB.out | apply below_alloc | apply pw_below_drewN | apply below_drew1 | refine below_set ?_ GE152.out) | exact HB.out))))
                            have n2_ := Aside0.mk (blk_below (g := gb152) (o := .cells #[.int .i64 ji5, .int .i64 (wrap64 (2 + (wrap64 (Int.tmod a1 15))))] 39 (0, 0)) (by (with_reducible repeat (first | refine blk_drewN ?_ _ | refine blk_drew ?_ | refine blk_alloc ?_ _)); exact BK152.out) hb)
                            have n3_ := Aside0.mk (below_step (by repeat (first | (with_reducible first | exact HB.out | apply below_alloc | apply pw_below_drewN | apply below_drew1 | refine below_set ?_ GE152.out) | exact HB.out)) hb)
                            clear HO_10
                            clear BK152
                            clear HB
                            have HO_10 := n0_
                            have HO166 := n1_
                            have BK152 := n2_
                            have HB := n3_
                            clear n0_ n1_ n2_ n3_
                            clear hb ho55
                            refine hK.out _ _ ⟨(blk_cell BK152.out 0).trans rfl, (blk_cell BK152.out 1).trans rfl⟩ (fun hHeld => ?_)
                            clear hK K
                            refine norm_ (a' := ?_) ?_ ?_
                            rotate_left
                            · show Act.put _ (some 100) _ = _
                              simp only [Act.put, List.setIfInBounds_toArray, List.set_cons_zero, List.set_cons_succ, i64_w, i32_w]
                              rfl
                            refine one_ (i := 6) (N := some 102) #[true, true, true, true, true, true, true, false, false, false, false, false, false] rfl rfl (one_of HT_.out (by kernel_rfl)) (by decide) (fun K hK => ?_)
                            refine Kd.R_lit_step (Kd.int .i64) _ 3 ?hg (N := 102) ?hd (xs := ([(Int.tmod (wrap64 (a3)) (ji5))] : List Int)) (inner := [.int .i64 (Int.tmod (wrap64 (a3)) (ji5))]) (ok := fun _ => True) (okp := fun _ => True) ?hr ?hp (fun _ hk => hk) trivial (Below.refl _ _) (Nat.le_refl _) (by simp) ?_; (case hd => rfl); (case hg => rfl); (case hr => first | (go_simp; done) | (go_simp; rfl)); (case hp => exact (Reps.one (show Kd.M (Kd.int .i64) _ _ _ (Int.tmod (wrap64 (a3)) (ji5)) [.int .i64 (Int.tmod (wrap64 (a3)) (ji5))] from rfl) (Reps.none _ _)))
                            intro v168 w56 ho57 hb hg_ hnew_
                            clear hg_ hnew_
                            (first | rw [← Ny167.out] at ho57 | (simp only [Int.reduceToNat] at ho57; rw [← Ny167.out] at ho57))
                            have n0_ := Aside0.mk (Kd.R_elder' (by (with_reducible repeat (first | apply Kd.R_alloc | apply Kd.R_drewN | apply Kd.R_drew)); exact HO_10.out) (Kd.R_base ho57) hb)
                            have n1_ := Aside0.mk (Kd.R_elder' (by (with_reducible repeat (first | apply Kd.R_alloc | apply Kd.R_drewN | apply Kd.R_drew)); exact HO166.out) (Kd.R_base ho57) hb)
                            have n2_ := Aside0.mk (Kd.R_lower (Kd.R_new' (Kd.R_new' ho57 (Kd.R_lt (by (with_reducible repeat (first | apply Kd.R_alloc | apply Kd.R_drewN | apply Kd.R_drew)); exact HO_10.out))) (Kd.R_lt (by (with_reducible repeat (first | apply Kd.R_alloc | apply Kd.R_drewN | apply Kd.R_drew)); exact HO166.out))) (below_size (by repeat (first | (with_reducible first | exact HB.out | apply below_alloc | apply pw_below_drewN | apply below_drew1 | refine below_set ?_ GE152.out) | exact HB.out))))
                            have n3_ := Aside0.mk (blk_below (g := gb152) (o := .cells #[.int .i64 ji5, .int .i64 (wrap64 (2 + (wrap64 (Int.tmod a1 15))))] 39 (0, 0)) (by (with_reducible repeat (first | refine blk_drewN ?_ _ | refine blk_drew ?_ | refine blk_alloc ?_ _)); exact BK152.out) hb)
                            have n4_ := Aside0.mk (below_step (by repeat (first | (with_reducible first | exact HB.out | apply below_alloc | apply pw_below_drewN | apply below_drew1 | refine below_set ?_ GE152.out) | exact HB.out)) hb)
                            clear HO_10
                            clear HO166
                            clear BK152
                            clear HB
                            have HO_10 := n0_
                            have HO166 := n1_
                            have HO169 := n2_
                            have BK152 := n3_
                            have HB := n4_
                            clear n0_ n1_ n2_ n3_ n4_
                            clear hb ho57
                            refine hK.out _ _ ⟨(blk_cell BK152.out 0).trans rfl, (blk_cell BK152.out 1).trans rfl⟩ (fun hHeld => ?_)
                            clear hK K
                            refine norm_ (a' := ?_) ?_ ?_
                            rotate_left
                            · show Act.put _ (some 102) _ = _
                              simp only [Act.put, List.setIfInBounds_toArray, List.set_cons_zero, List.set_cons_succ, i64_w, i32_w]
                              rfl
                            exact norm_ (by simp only [putAll, Act.put, List.setIfInBounds_toArray, List.set_cons_zero, List.set_cons_succ]) (hCont (v165, v168) _ ⟨hHeld, (by (with_reducible repeat (first | apply Kd.R_alloc | apply Kd.R_drewN | apply Kd.R_drew)); exact Kd.R_mono HO166.out (fun _ hk => ⟨hk.2, hk.1.2⟩)), (by (with_reducible repeat (first | apply Kd.R_alloc | apply Kd.R_drewN | apply Kd.R_drew)); exact Kd.R_mono HO169.out (fun _ hk => ⟨hk.2, hk.1.2⟩)), (by (with_reducible repeat (first | apply Kd.R_alloc | apply Kd.R_drewN | apply Kd.R_drew)); exact Kd.R_mono HO_10.out (fun _ hk => ⟨hk.1.2, hk.2⟩)), (by (with_reducible repeat (first | refine blk_drewN ?_ _ | refine blk_drew ?_ | refine blk_alloc ?_ _)); exact BK152.out), (by repeat (first | (with_reducible first | exact HB.out | apply below_alloc | apply pw_below_drewN | apply below_drew1 | refine below_set ?_ GE152.out) | exact HB.out))⟩)
                          · skip
                            refine Kd.R_lit_step (Kd.int .i64) _ 3 ?hg (N := 102) ?hd (xs := ([(Int.tmod (wrap64 (a3)) (ji5))] : List Int)) (inner := [.int .i64 (Int.tmod (wrap64 (a3)) (ji5))]) (ok := fun _ => True) (okp := fun _ => True) ?hr ?hp (fun _ hk => hk) trivial (Below.refl _ _) (Nat.le_refl _) (by simp) ?_; (case hd => rfl); (case hg => rfl); (case hr => first | (go_simp; done) | (go_simp; rfl)); (case hp => exact (Reps.one (show Kd.M (Kd.int .i64) _ _ _ (Int.tmod (wrap64 (a3)) (ji5)) [.int .i64 (Int.tmod (wrap64 (a3)) (ji5))] from rfl) (Reps.none _ _)))
                            intro v168 w54 ho55 hb hg_ hnew_
                            clear hg_ hnew_
                            (first | rw [← Ny167.out] at ho55 | (simp only [Int.reduceToNat] at ho55; rw [← Ny167.out] at ho55))
                            have n0_ := Aside0.mk (Kd.R_elder' (by (with_reducible repeat (first | apply Kd.R_alloc | apply Kd.R_drewN | apply Kd.R_drew)); exact HO_10.out) (Kd.R_base ho55) hb)
                            have n1_ := Aside0.mk (Kd.R_lower (Kd.R_new' ho55 (Kd.R_lt (by (with_reducible repeat (first | apply Kd.R_alloc | apply Kd.R_drewN | apply Kd.R_drew)); exact HO_10.out))) (below_size (by repeat (first | (with_reducible first | exact HB.out | apply below_alloc | apply pw_below_drewN | apply below_drew1 | refine below_set ?_ GE152.out) | exact HB.out))))
                            have n2_ := Aside0.mk (blk_below (g := gb152) (o := .cells #[.int .i64 ji5, .int .i64 (wrap64 (2 + (wrap64 (Int.tmod a1 15))))] 39 (0, 0)) (by (with_reducible repeat (first | refine blk_drewN ?_ _ | refine blk_drew ?_ | refine blk_alloc ?_ _)); exact BK152.out) hb)
                            have n3_ := Aside0.mk (below_step (by repeat (first | (with_reducible first | exact HB.out | apply below_alloc | apply pw_below_drewN | apply below_drew1 | refine below_set ?_ GE152.out) | exact HB.out)) hb)
                            clear HO_10
                            clear BK152
                            clear HB
                            have HO_10 := n0_
                            have HO169 := n1_
                            have BK152 := n2_
                            have HB := n3_
                            clear n0_ n1_ n2_ n3_
                            clear hb ho55
                            refine hK.out _ _ ⟨(blk_cell BK152.out 0).trans rfl, (blk_cell BK152.out 1).trans rfl⟩ (fun hHeld => ?_)
                            clear hK K
                            refine norm_ (a' := ?_) ?_ ?_
                            rotate_left
                            · show Act.put _ (some 102) _ = _
                              simp only [Act.put, List.setIfInBounds_toArray, List.set_cons_zero, List.set_cons_succ, i64_w, i32_w]
                              rfl
                            refine one_ (i := 4) (N := some 100) #[true, true, true, true, true, true, true, false, false, false, false, false, false] rfl rfl (one_of HT_.out (by kernel_rfl)) (by decide) (fun K hK => ?_)
                            refine Kd.R_make_step (Kd.int .i64) _ 3 (by rfl) (N := 100) rfl 30 _ _ rfl ji5 rfl rfl Try.underlying30 (.int .i64 0) 8 info3 rfl (by decide) (by omega) 0 (ok := fun _ => True) (okp := fun _ => True) rfl (fun _ hk => hk) trivial (of_decide_eq_true (by first | (with_reducible assumption) | assumption)) (Nat.le_trans (Nat.mul_le_mul_right _ (of_decide_eq_true (by first | (with_reducible assumption) | assumption) : ji5.toNat ≤ 35184372088832)) (by omega)) (Below.refl _ _) (Nat.le_refl _) ?_
                            intro v165 w56 ho57 hb hg_ hnew_
                            clear hg_ hnew_
                            (first | rw [← Ny164.out] at ho57 | (simp only [Int.reduceToNat] at ho57; rw [← Ny164.out] at ho57))
                            have n0_ := Aside0.mk (Kd.R_elder' (by (with_reducible repeat (first | apply Kd.R_alloc | apply Kd.R_drewN | apply Kd.R_drew)); exact HO_10.out) (Kd.R_base ho57) hb)
                            have n1_ := Aside0.mk (Kd.R_elder' (by (with_reducible repeat (first | apply Kd.R_alloc | apply Kd.R_drewN | apply Kd.R_drew)); exact HO169.out) (Kd.R_base ho57) hb)
                            have n2_ := Aside0.mk (Kd.R_lower (Kd.R_new' (Kd.R_new' ho57 (Kd.R_lt (by (with_reducible repeat (first | apply Kd.R_alloc | apply Kd.R_drewN | apply Kd.R_drew)); exact HO_10.out))) (Kd.R_lt (by (with_reducible repeat (first | apply Kd.R_alloc | apply Kd.R_drewN | apply Kd.R_drew)); exact HO169.out))) (below_size (by repeat (first | (with_reducible first | exact HB.out | apply below_alloc | apply pw_below_drewN | apply below_drew1 | refine below_set ?_ GE152.out) | exact HB.out))))
                            have n3_ := Aside0.mk (blk_below (g := gb152) (o := .cells #[.int .i64 ji5, .int .i64 (wrap64 (2 + (wrap64 (Int.tmod a1 15))))] 39 (0, 0)) (by (with_reducible repeat (first | refine blk_drewN ?_ _ | refine blk_drew ?_ | refine blk_alloc ?_ _)); exact BK152.out) hb)
                            have n4_ := Aside0.mk (below_step (by repeat (first | (with_reducible first | exact HB.out | apply below_alloc | apply pw_below_drewN | apply below_drew1 | refine below_set ?_ GE152.out) | exact HB.out)) hb)
                            clear HO_10
                            clear HO169
                            clear BK152
                            clear HB
                            have HO_10 := n0_
                            have HO169 := n1_
                            have HO166 := n2_
                            have BK152 := n3_
                            have HB := n4_
                            clear n0_ n1_ n2_ n3_ n4_
                            clear hb ho57
                            refine hK.out _ _ ⟨(blk_cell BK152.out 0).trans rfl, (blk_cell BK152.out 1).trans rfl⟩ (fun hHeld => ?_)
                            clear hK K
                            refine norm_ (a' := ?_) ?_ ?_
                            rotate_left
                            · show Act.put _ (some 100) _ = _
                              simp only [Act.put, List.setIfInBounds_toArray, List.set_cons_zero, List.set_cons_succ, i64_w, i32_w]
                              rfl
                            exact norm_ (by simp only [putAll, Act.put, List.setIfInBounds_toArray, List.set_cons_zero, List.set_cons_succ]) (hCont (v165, v168) _ ⟨hHeld, (by (with_reducible repeat (first | apply Kd.R_alloc | apply Kd.R_drewN | apply Kd.R_drew)); exact Kd.R_mono HO166.out (fun _ hk => ⟨hk.2, hk.1.2⟩)), (by (with_reducible repeat (first | apply Kd.R_alloc | apply Kd.R_drewN | apply Kd.R_drew)); exact Kd.R_mono HO169.out (fun _ hk => ⟨hk.2, hk.1.2⟩)), (by (with_reducible repeat (first | apply Kd.R_alloc | apply Kd.R_drewN | apply Kd.R_drew)); exact Kd.R_mono HO_10.out (fun _ hk => ⟨hk.2, hk.1.2⟩)), (by (with_reducible repeat (first | refine blk_drewN ?_ _ | refine blk_drew ?_ | refine blk_alloc ?_ _)); exact BK152.out), (by repeat (first | (with_reducible first | exact HB.out | apply below_alloc | apply pw_below_drewN | apply below_drew1 | refine below_set ?_ GE152.out) | exact HB.out))⟩)
                        rintro ⟨v165, v168⟩ w58 ⟨hS_, h0_, h1_, h2_, h3_, h4_⟩
                        have n0_ : Aside0 (Kd.R (Kd.int .i64) 3 w58 w.heap.size (fun k_ => some k_ ≠ (v168 : Value).ownBlock ∧ some k_ ≠ (.slice Ao52 x10_1.length co52 : Value).ownBlock) v165 y164) := ⟨h0_⟩
                        have n1_ : Aside0 (Kd.R (Kd.int .i64) 3 w58 w.heap.size (fun k_ => some k_ ≠ (v165 : Value).ownBlock ∧ some k_ ≠ (.slice Ao52 x10_1.length co52 : Value).ownBlock) v168 y167) := ⟨h1_⟩
                        have n2_ : Aside0 (Kd.R (Kd.int .i64) 3 w58 w.heap.size (fun k_ => some k_ ≠ (v165 : Value).ownBlock ∧ some k_ ≠ (v168 : Value).ownBlock) (.slice Ao52 x10_1.length co52) x10_1) := ⟨h2_⟩
                        have n3_ : Aside0 (w58.heap[gb152]? = some (.cells #[.int .i64 ji5, .int .i64 (wrap64 (2 + (wrap64 (Int.tmod a1 15))))] 39 (0, 0))) := ⟨h3_⟩
                        have n4_ : Aside0 (Below w.heap.size w w58) := ⟨h4_⟩
                        clear HO_10
                        clear BK152
                        clear HB
                        clear h0_ h1_ h2_ h3_ h4_
                        have HO166 := n0_
                        have HO169 := n1_
                        have HO_10 := n2_
                        have BK152 := n3_
                        have HB := n4_
                        clear n0_ n1_ n2_ n3_ n4_
                        have hHeld : w58.cell? ⟨gb152, 0, none⟩ = some (.int .i64 ji5) ∧ w58.cell? ⟨gb152, 1, none⟩ = some (.int .i64 (wrap64 (2 + (wrap64 (Int.tmod a1 15))))) := hS_
                        obtain ⟨Ao59, co59, eo59⟩ := Kd.R_slice HO166.out
                        (first | subst eo59 | (injection eo59 with f1_ f2_ f3_; have f4_ := f1_.symm; have f5_ := f3_.symm; clear f1_ f2_ f3_; subst f4_; subst f5_))
                        obtain ⟨Ao60, co60, eo60⟩ := Kd.R_slice HO169.out
                        (first | subst eo60 | (injection eo60 with f1_ f2_ f3_; have f4_ := f1_.symm; have f5_ := f3_.symm; clear f1_ f2_ f3_; subst f4_; subst f5_))
                        refine norm_ (a' := ?_) ?_ ?_
                        rotate_left
                        · simp only [putAll, Act.put, List.setIfInBounds_toArray, List.set_cons_zero, List.set_cons_succ]
                          rfl
                        refine one_ (i := 7) (N := some 103) #[true, true, true, true, true, true, true, true, false, false, false, false, false] rfl rfl (one_of HT_.out (by kernel_rfl)) (by decide) (fun K hK => ?_)
                        refine goes_ Try.func22 (by kernel_rfl) rfl #[.agg #[.int .i64 ji5, .int .i64 (wrap64 (2 + (wrap64 (Int.tmod a1 15))))], .slice Ao52 x10_1.length co52, .slice Ao59 y164.length co59, .slice Ao60 y167.length co60] (by rfl) rfl rfl (by (try simp only [List.map_toArray, List.map_cons, List.map_nil]); first | done | (simp only [hji5]; rfl) | rfl | (simp only [List.length_drop, List.length_take]; rfl)) ?_
                        with_reducible refine (chooser_Pick.calls k1 ji5 (wrap64 (2 + (wrap64 (Int.tmod a1 15)))) _ _ x10_1 _ _ y164 _ _ y167 t170 t171 _ ?side1 ?side2 ?side3 ?side4 ?side5 ?side6 A46.out).mono ?_
                        (case side1 => repeat (first | exact (Kd.R_reads' HO_10.out).2.2 | (with_reducible refine Kd.C_alloc ?_ _) | (with_reducible refine Kd.C_drewN ?_ _) | (with_reducible refine Kd.C_drew ?_)))
                        (case side2 => exact (Kd.R_reads' HO_10.out).2.1)
                        (case side3 => repeat (first | exact (Kd.R_reads' HO166.out).2.2 | (with_reducible refine Kd.C_alloc ?_ _) | (with_reducible refine Kd.C_drewN ?_ _) | (with_reducible refine Kd.C_drew ?_)))
                        (case side4 => exact (Kd.R_reads' HO166.out).2.1)
                        (case side5 => repeat (first | exact (Kd.R_reads' HO169.out).2.2 | (with_reducible refine Kd.C_alloc ?_ _) | (with_reducible refine Kd.C_drewN ?_ _) | (with_reducible refine Kd.C_drew ?_)))
                        (case side6 => exact (Kd.R_reads' HO169.out).2.1)
                        rintro e w61 ⟨rfl, hb⟩
                        refine ⟨_, rfl, ?_⟩
                        have n0_ := Aside0.mk (Kd.R_below (by (with_reducible repeat (first | apply Kd.R_alloc | apply Kd.R_drewN | apply Kd.R_drew)); exact HO_10.out) hb)
                        have n1_ := Aside0.mk (Kd.R_below (by (with_reducible repeat (first | apply Kd.R_alloc | apply Kd.R_drewN | apply Kd.R_drew)); exact HO166.out) hb)
                        have n2_ := Aside0.mk (Kd.R_below (by (with_reducible repeat (first | apply Kd.R_alloc | apply Kd.R_drewN | apply Kd.R_drew)); exact HO169.out) hb)
                        have n3_ := Aside0.mk (blk_below (g := gb152) (o := .cells #[.int .i64 ji5, .int .i64 (wrap64 (2 + (wrap64 (Int.tmod a1 15))))] 39 (0, 0)) (by (with_reducible repeat (first | refine blk_drewN ?_ _ | refine blk_drew ?_ | refine blk_alloc ?_ _)); exact BK152.out) hb)
                        have n4_ := Aside0.mk (below_step (by repeat (first | (with_reducible first | exact HB.out | apply below_alloc | apply pw_below_drewN | apply below_drew1 | refine below_set ?_ GE152.out) | exact HB.out)) hb)
                        clear HO_10
                        clear HO166
                        clear HO169
                        clear BK152
                        clear HB
                        have HO_10 := n0_
                        have HO166 := n1_
                        have HO169 := n2_
                        have BK152 := n3_
                        have HB := n4_
                        clear n0_ n1_ n2_ n3_ n4_
                        (try clear hb)
                        (try clear hb2)
                        (try clear hk)
                        (try clear hi)
                        refine hK.out _ _ ⟨(blk_cell BK152.out 0).trans rfl, (blk_cell BK152.out 1).trans rfl⟩ (fun hHeld => ?_)
                        clear hK K
                        refine norm_ (a' := ?_) ?_ ?_
                        rotate_left
                        · show Act.put _ (some 103) _ = _
                          simp only [Act.put, List.setIfInBounds_toArray, List.set_cons_zero, List.set_cons_succ, i64_w, i32_w]
                          rfl
                        refine pure_ (i := 8) (N := some 95) (v := ?_) (a' := ?_) #[true, true, true, true, true, true, true, true, true, false, false, false, false] rfl rfl (any_of HT_.out (by kernel_rfl)) (fun _ _ _ h => h) (Or.inl ⟨by rfl, ?_⟩) ?_ ?_
                        rotate_left
                        · intro w'
                          go_simp
                          with_reducible rfl
                        rotate_left
                        · simp only [Act.put, List.setIfInBounds_toArray, List.set_cons_zero, List.set_cons_succ, i64_w, i32_w]
                          rfl
                        refine pure_ (i := 9) (N := some 104) (v := ?_) (a' := ?_) #[true, true, true, true, true, true, true, true, true, true, false, false, false] rfl rfl (any_of HT_.out (by kernel_rfl)) (fun _ _ _ h => h) (Or.inl ⟨by rfl, ?_⟩) ?_ ?_
                        rotate_left
                        · intro w'
                          go_simp
                          with_reducible rfl
                        rotate_left
                        · simp only [Act.put, List.setIfInBounds_toArray, List.set_cons_zero, List.set_cons_succ, i64_w, i32_w]
                          rfl
                        refine pure_ (i := 10) (N := some 105) (v := ?_) (a' := ?_) #[true, true, true, true, true, true, true, true, true, true, true, false, false] rfl rfl (any_of HT_.out (by kernel_rfl)) (fun _ _ _ h => h) (Or.inl ⟨by rfl, ?_⟩) ?_ ?_
                        rotate_left
                        · intro w'
                          go_simp
                          with_reducible rfl
                        rotate_left
                        · simp only [Act.put, List.setIfInBounds_toArray, List.set_cons_zero, List.set_cons_succ, i64_w, i32_w]
                          rfl
                        refine pure_ (i := 11) (N := some 16) (v := ?_) (a' := ?_) #[true, true, true, true, true, true, true, true, true, true, true, true, false] rfl rfl (any_of HT_.out (by kernel_rfl)) (fun _ _ _ h => h) (Or.inl ⟨by rfl, ?_⟩) ?_ ?_
                        rotate_left
                        · intro w'
                          go_simp
                          with_reducible rfl
                        rotate_left
                        · simp only [Act.put, List.setIfInBounds_toArray, List.set_cons_zero, List.set_cons_succ, i64_w, i32_w]
                          rfl
                        refine pure_ (i := 12) (N := some 17) (v := ?_) (a' := ?_) #[true, true, true, true, true, true, true, true, true, true, true, true, true] rfl rfl (any_of HT_.out (by kernel_rfl)) (fun _ _ _ h => h) (Or.inl ⟨by rfl, ?_⟩) ?_ ?_
                        rotate_left
                        · intro w'
                          go_simp
                          with_reducible rfl
                        rotate_left
                        · simp only [Act.put, List.setIfInBounds_toArray, List.set_cons_zero, List.set_cons_succ, i64_w, i32_w]
                          rfl
                        refine done_ (done_of HT_.out (by kernel_rfl)) ?_
                        try go_wp2_with (first | ((with_reducible refine gate_callee (f := 24) rfl ?_); refine goesL_ (some 108) rfl rfl Try.func24 (by kernel_rfl) rfl #[] rfl (by (try simp only [List.map_toArray, List.map_cons, List.map_nil]); first | done | rfl | (simp only [List.length_drop, List.length_take]; rfl)) ?_; (with_reducible refine (stopcocklaw12_awake.calls k1  true _ A48.out).mono ?_); rintro e w62 ⟨rfl, hb⟩; refine ⟨_, rfl, ?_⟩; have n0_ := Aside0.mk (Kd.R_below (by (with_reducible repeat (first | apply Kd.R_alloc | apply Kd.R_drewN | apply Kd.R_drew)); exact HO_10.out) hb); have n1_ := Aside0.mk (Kd.R_below (by (with_reducible repeat (first | apply Kd.R_alloc | apply Kd.R_drewN | apply Kd.R_drew)); exact HO166.out) hb); have n2_ := Aside0.mk (Kd.R_below (by (with_reducible repeat (first | apply Kd.R_alloc | apply Kd.R_drewN | apply Kd.R_drew)); exact HO169.out) hb); have n3_ := Aside0.mk (blk_below (g := gb152) (o := .cells #[.int .i64 ji5, .int .i64 (wrap64 (2 + (wrap64 (Int.tmod a1 15))))] 39 (0, 0)) (by (with_reducible repeat (first | refine blk_drewN ?_ _ | refine blk_drew ?_ | refine blk_alloc ?_ _)); exact BK152.out) hb); have n4_ := Aside0.mk (below_step (by repeat (first | (with_reducible first | exact HB.out | apply below_alloc | apply pw_below_drewN | apply below_drew1 | refine below_set ?_ GE152.out) | exact HB.out)) hb); clear HO_10; clear HO166; clear HO169; clear BK152; clear HB; have HO_10 := n0_; have HO166 := n1_; have HO169 := n2_; have BK152 := n3_; have HB := n4_; clear n0_ n1_ n2_ n3_ n4_; (try clear hb); (try clear hb2); (try clear hk); (try clear hi)))
                        go_ret
                        exact ⟨by first | rfl | (simp [errW_none, errW_some] <;> rfl) | (simp only [← hji5]; first | rfl | (simp [errW_none, errW_some] <;> rfl)) | (simp [*, errW_none, errW_some] <;> rfl), by repeat (first | (with_reducible first | exact HB.out | apply below_alloc | apply pw_below_drewN | apply below_drew1 | refine below_set ?_ GE152.out) | exact HB.out)⟩
                      · rw [if_neg c50] at H
                        have c50b0 : (t171 == 0) = false := beq_eq_false_iff_ne.mpr c50
                        have c50b1 : (t171 != 0) = true := bne_iff_ne.mpr c50
                        obtain rfl := Option.some.inj H
                        have hcz63_0 : wr.cell? ⟨gb152, 0, none⟩ = some (.int .i64 ji5) := (blk_cell BK152.out 0).trans rfl
                        have hcz63_1 : wr.cell? ⟨gb152, 1, none⟩ = some (.int .i64 (wrap64 (2 + (wrap64 (Int.tmod a1 15))))) := (blk_cell BK152.out 1).trans rfl
                        have hfz63_0 := blk_frozen BK152.out 0
                        have hfz63_1 := blk_frozen BK152.out 1
                        obtain ⟨Ao64, co64, eo64⟩ := Kd.R_slice HO_10.out
                        subst eo64
                        try go_wp2
                        have n0_ := Aside0.mk (Kd.R_drew HO_10.out)
                        have n1_ := Aside0.mk (blk_drew BK152.out)
                        have n2_ := Aside0.mk (below_drew1 HB.out)
                        clear HO_10
                        clear BK152
                        clear HB
                        have HO_10 := n0_
                        have BK152 := n1_
                        have HB := n2_
                        clear n0_ n1_ n2_
                        refine start_ (n := 13) (S := fun w' => w'.cell? ⟨gb152, 0, none⟩ = some (.int .i64 ji5) ∧ w'.cell? ⟨gb152, 1, none⟩ = some (.int .i64 (wrap64 (2 + (wrap64 (Int.tmod a1 15)))))) (ds := []) #[false, false, false, false, false, false, false, false, false, false, false, false, false] (by kernel_rfl) rfl rfl ⟨(blk_cell BK152.out 0).trans rfl, (blk_cell BK152.out 1).trans rfl⟩ (fun hHeld => ?_); refine with_tabW stopcocklaw12_ChooserSpread.tab16 stopcocklaw12_ChooserSpread.bits16 (fun HT_ HW_ => ?_)
                        generalize wr.drew = w65 at HO_10 BK152 HB hHeld ⊢
                        refine pure_ (i := 1) (N := some 97) (v := ?_) (a' := ?_) #[false, true, false, false, false, false, false, false, false, false, false, false, false] rfl rfl (any_of HT_.out (by kernel_rfl)) (fun _ _ _ h => h) (Or.inl ⟨by rfl, ?_⟩) ?_ ?_
                        rotate_left
                        · intro w'
                          go_simp
                          with_reducible rfl
                        rotate_left
                        · simp only [Act.put, List.setIfInBounds_toArray, List.set_cons_zero, List.set_cons_succ, i64_w, i32_w]
                          rfl
                        refine pure_ (i := 2) (N := some 98) (v := ?_) (a' := ?_) #[false, true, true, false, false, false, false, false, false, false, false, false, false] rfl rfl (any_of HT_.out (by kernel_rfl)) (fun _ _ _ h => h) (Or.inl ⟨by rfl, ?_⟩) ?_ ?_
                        rotate_left
                        · intro w'
                          go_simp
                          with_reducible rfl
                        rotate_left
                        · simp only [Act.put, List.setIfInBounds_toArray, List.set_cons_zero, List.set_cons_succ, i64_w, i32_w]
                          rfl
                        refine pure_ (i := 5) (N := some 101) (v := ?_) (a' := ?_) #[false, true, true, false, false, true, false, false, false, false, false, false, false] rfl rfl (any_of HT_.out (by kernel_rfl)) (fun _ _ _ h => h) (Or.inl ⟨by rfl, ?_⟩) ?_ ?_
                        rotate_left
                        · intro w'
                          go_simp
                          with_reducible rfl
                        rotate_left
                        · simp only [Act.put, List.setIfInBounds_toArray, List.set_cons_zero, List.set_cons_succ, i64_w, i32_w]
                          rfl
                        refine take_ (i := 0) (N := some 96) (v := ?_) (a' := ?_) #[true, true, true, false, false, true, false, false, false, false, false, false, false] rfl rfl (take_ofW HT_.out HW_.out (by kernel_rfl)) (fun _ _ _ h => h) (Or.inl ⟨by rfl, ?_⟩) hHeld ?_ ?_
                        rotate_left
                        · rintro w' ⟨s0, s1⟩
                          go_simp
                          with_reducible rfl
                        rotate_left
                        · simp only [Act.put, List.setIfInBounds_toArray, List.set_cons_zero, List.set_cons_succ, i64_w, i32_w]
                          rfl
                        refine take_ (i := 3) (N := some 99) (v := ?_) (a' := ?_) #[true, true, true, true, false, true, false, false, false, false, false, false, false] rfl rfl (take_ofW HT_.out HW_.out (by kernel_rfl)) (fun _ _ _ h => h) (Or.inl ⟨by rfl, ?_⟩) hHeld ?_ ?_
                        rotate_left
                        · rintro w' ⟨s0, s1⟩
                          go_simp
                          with_reducible rfl
                        rotate_left
                        · simp only [Act.put, List.setIfInBounds_toArray, List.set_cons_zero, List.set_cons_succ, i64_w, i32_w]
                          rfl
                        refine join_ (σ := Value × Value) 6 #[true, true, true, true, true, true, true, false, false, false, false, false, false] (fun s_ => [(100, s_.1), (102, s_.2)]) (fun s_ w' => (w'.cell? ⟨gb152, 0, none⟩ = some (.int .i64 ji5) ∧ w'.cell? ⟨gb152, 1, none⟩ = some (.int .i64 (wrap64 (2 + (wrap64 (Int.tmod a1 15)))))) ∧ (Kd.R (Kd.int .i64) 3 w' w.heap.size (fun k_ => some k_ ≠ (s_.2 : Value).ownBlock ∧ some k_ ≠ (.slice Ao64 x10_1.length co64 : Value).ownBlock) s_.1 y164) ∧ (Kd.R (Kd.int .i64) 3 w' w.heap.size (fun k_ => some k_ ≠ (s_.1 : Value).ownBlock ∧ some k_ ≠ (.slice Ao64 x10_1.length co64 : Value).ownBlock) s_.2 y167) ∧ (Kd.R (Kd.int .i64) 3 w' w.heap.size (fun k_ => some k_ ≠ (s_.1 : Value).ownBlock ∧ some k_ ≠ (s_.2 : Value).ownBlock) (.slice Ao64 x10_1.length co64) x10_1) ∧ (w'.heap[gb152]? = some (.cells #[.int .i64 ji5, .int .i64 (wrap64 (2 + (wrap64 (Int.tmod a1 15))))] 39 (0, 0))) ∧ (Below w.heap.size w w')) ?_ ?_
                        rotate_left
                        · intro hCont
                          refine two_ (i := 4) (j := 6) (Ni := some 100) (Nj := some 102) #[true, true, true, true, true, true, false, false, false, false, false, false, false] #[true, true, true, true, false, true, true, false, false, false, false, false, false] rfl rfl rfl rfl (two_of HT_.out (by kernel_rfl)) (by decide) (by decide) (fun K hK => ?_) (fun K hK => ?_)
                          · skip
                            refine Kd.R_make_step (Kd.int .i64) _ 3 (by rfl) (N := 100) rfl 30 _ _ rfl ji5 rfl rfl Try.underlying30 (.int .i64 0) 8 info3 rfl (by decide) (by omega) 0 (ok := fun _ => True) (okp := fun _ => True) rfl (fun _ hk => hk) trivial (of_decide_eq_true (by first | (with_reducible assumption) | assumption)) (Nat.le_trans (Nat.mul_le_mul_right _ (of_decide_eq_true (by first | (with_reducible assumption) | assumption) : ji5.toNat ≤ 35184372088832)) (by omega)) (Below.refl _ _) (Nat.le_refl _) ?_
                            intro v165 w66 ho67 hb hg_ hnew_
                            clear hg_ hnew_
                            (first | rw [← Ny164.out] at ho67 | (simp only [Int.reduceToNat] at ho67; rw [← Ny164.out] at ho67))
                            have n0_ := Aside0.mk (Kd.R_elder' (by (with_reducible repeat (first | apply Kd.R_alloc | apply Kd.R_drewN | apply Kd.R_drew)); exact HO_10.out) (Kd.R_base ho67) hb)
                            have n1_ := Aside0.mk (Kd.R_lower (Kd.R_new' ho67 (Kd.R_lt (by (with_reducible repeat (first | apply Kd.R_alloc | apply Kd.R_drewN | apply Kd.R_drew)); exact HO_10.out))) (below_size (by repeat (first | (with_reducible first | exact HB.out | apply below_alloc | apply pw_below_drewN | apply below_drew1 | refine below_set ?_ GE152.out) | exact HB.out))))
                            have n2_ := Aside0.mk (blk_below (g := gb152) (o := .cells #[.int .i64 ji5, .int .i64 (wrap64 (2 + (wrap64 (Int.tmod a1 15))))] 39 (0, 0)) (by (with_reducible repeat (first | refine blk_drewN ?_ _ | refine blk_drew ?_ | refine blk_alloc ?_ _)); exact BK152.out) hb)
                            have n3_ := Aside0.mk (below_step (by repeat (first | (with_reducible first | exact HB.out | apply below_alloc | apply pw_below_drewN | apply below_drew1 | refine below_set ?_ GE152.out) | exact HB.out)) hb)
                            clear HO_10
                            clear BK152
                            clear HB
                            have HO_10 := n0_
                            have HO166 := n1_
                            have BK152 := n2_
                            have HB := n3_
                            clear n0_ n1_ n2_ n3_
                            clear hb ho67
                            refine hK.out _ _ ⟨(blk_cell BK152.out 0).trans rfl, (blk_cell BK152.out 1).trans rfl⟩ (fun hHeld => ?_)
                            clear hK K
                            refine norm_ (a' := ?_) ?_ ?_
                            rotate_left
                            · show Act.put _ (some 100) _ = _
                              simp only [Act.put, List.setIfInBounds_toArray, List.set_cons_zero, List.set_cons_succ, i64_w, i32_w]
                              rfl
                            refine one_ (i := 6) (N := some 102) #[true, true, true, true, true, true, true, false, false, false, false, false, false] rfl rfl (one_of HT_.out (by kernel_rfl)) (by decide) (fun K hK => ?_)
                            refine Kd.R_lit_step (Kd.int .i64) _ 3 ?hg (N := 102) ?hd (xs := ([(Int.tmod (wrap64 (a3)) (ji5))] : List Int)) (inner := [.int .i64 (Int.tmod (wrap64 (a3)) (ji5))]) (ok := fun _ => True) (okp := fun _ => True) ?hr ?hp (fun _ hk => hk) trivial (Below.refl _ _) (Nat.le_refl _) (by simp) ?_; (case hd => rfl); (case hg => rfl); (case hr => first | (go_simp; done) | (go_simp; rfl)); (case hp => exact (Reps.one (show Kd.M (Kd.int .i64) _ _ _ (Int.tmod (wrap64 (a3)) (ji5)) [.int .i64 (Int.tmod (wrap64 (a3)) (ji5))] from rfl) (Reps.none _ _)))
                            intro v168 w68 ho69 hb hg_ hnew_
                            clear hg_ hnew_
                            (first | rw [← Ny167.out] at ho69 | (simp only [Int.reduceToNat] at ho69; rw [← Ny167.out] at ho69))
                            have n0_ := Aside0.mk (Kd.R_elder' (by (with_reducible repeat (first | apply Kd.R_alloc | apply Kd.R_drewN | apply Kd.R_drew)); exact HO_10.out) (Kd.R_base ho69) hb)
                            have n1_ := Aside0.mk (Kd.R_elder' (by (with_reducible repeat (first | apply Kd.R_alloc | apply Kd.R_drewN | apply Kd.R_drew)); exact HO166.out) (Kd.R_base ho69) hb)
                            have n2_ := Aside0.mk (Kd.R_lower (Kd.R_new' (Kd.R_new' ho69 (Kd.R_lt (by (with_reducible repeat (first | apply Kd.R_alloc | apply Kd.R_drewN | apply Kd.R_drew)); exact HO_10.out))) (Kd.R_lt (by (with_reducible repeat (first | apply Kd.R_alloc | apply Kd.R_drewN | apply Kd.R_drew)); exact HO166.out))) (below_size (by repeat (first | (with_reducible first | exact HB.out | apply below_alloc | apply pw_below_drewN | apply below_drew1 | refine below_set ?_ GE152.out) | exact HB.out))))
                            have n3_ := Aside0.mk (blk_below (g := gb152) (o := .cells #[.int .i64 ji5, .int .i64 (wrap64 (2 + (wrap64 (Int.tmod a1 15))))] 39 (0, 0)) (by (with_reducible repeat (first | refine blk_drewN ?_ _ | refine blk_drew ?_ | refine blk_alloc ?_ _)); exact BK152.out) hb)
                            have n4_ := Aside0.mk (below_step (by repeat (first | (with_reducible first | exact HB.out | apply below_alloc | apply pw_below_drewN | apply below_drew1 | refine below_set ?_ GE152.out) | exact HB.out)) hb)
                            clear HO_10
                            clear HO166
                            clear BK152
                            clear HB
                            have HO_10 := n0_
                            have HO166 := n1_
                            have HO169 := n2_
                            have BK152 := n3_
                            have HB := n4_
                            clear n0_ n1_ n2_ n3_ n4_
                            clear hb ho69
                            refine hK.out _ _ ⟨(blk_cell BK152.out 0).trans rfl, (blk_cell BK152.out 1).trans rfl⟩ (fun hHeld => ?_)
                            clear hK K
                            refine norm_ (a' := ?_) ?_ ?_
                            rotate_left
                            · show Act.put _ (some 102) _ = _
                              simp only [Act.put, List.setIfInBounds_toArray, List.set_cons_zero, List.set_cons_succ, i64_w, i32_w]
                              rfl
                            exact norm_ (by simp only [putAll, Act.put, List.setIfInBounds_toArray, List.set_cons_zero, List.set_cons_succ]) (hCont (v165, v168) _ ⟨hHeld, (by (with_reducible repeat (first | apply Kd.R_alloc | apply Kd.R_drewN | apply Kd.R_drew)); exact Kd.R_mono HO166.out (fun _ hk => ⟨hk.2, hk.1.2⟩)), (by (with_reducible repeat (first | apply Kd.R_alloc | apply Kd.R_drewN | apply Kd.R_drew)); exact Kd.R_mono HO169.out (fun _ hk => ⟨hk.2, hk.1.2⟩)), (by (with_reducible repeat (first | apply Kd.R_alloc | apply Kd.R_drewN | apply Kd.R_drew)); exact Kd.R_mono HO_10.out (fun _ hk => ⟨hk.1.2, hk.2⟩)), (by (with_reducible repeat (first | refine blk_drewN ?_ _ | refine blk_drew ?_ | refine blk_alloc ?_ _)); exact BK152.out), (by repeat (first | (with_reducible first | exact HB.out | apply below_alloc | apply pw_below_drewN | apply below_drew1 | refine below_set ?_ GE152.out) | exact HB.out))⟩)
                          · skip
                            refine Kd.R_lit_step (Kd.int .i64) _ 3 ?hg (N := 102) ?hd (xs := ([(Int.tmod (wrap64 (a3)) (ji5))] : List Int)) (inner := [.int .i64 (Int.tmod (wrap64 (a3)) (ji5))]) (ok := fun _ => True) (okp := fun _ => True) ?hr ?hp (fun _ hk => hk) trivial (Below.refl _ _) (Nat.le_refl _) (by simp) ?_; (case hd => rfl); (case hg => rfl); (case hr => first | (go_simp; done) | (go_simp; rfl)); (case hp => exact (Reps.one (show Kd.M (Kd.int .i64) _ _ _ (Int.tmod (wrap64 (a3)) (ji5)) [.int .i64 (Int.tmod (wrap64 (a3)) (ji5))] from rfl) (Reps.none _ _)))
                            intro v168 w66 ho67 hb hg_ hnew_
                            clear hg_ hnew_
                            (first | rw [← Ny167.out] at ho67 | (simp only [Int.reduceToNat] at ho67; rw [← Ny167.out] at ho67))
                            have n0_ := Aside0.mk (Kd.R_elder' (by (with_reducible repeat (first | apply Kd.R_alloc | apply Kd.R_drewN | apply Kd.R_drew)); exact HO_10.out) (Kd.R_base ho67) hb)
                            have n1_ := Aside0.mk (Kd.R_lower (Kd.R_new' ho67 (Kd.R_lt (by (with_reducible repeat (first | apply Kd.R_alloc | apply Kd.R_drewN | apply Kd.R_drew)); exact HO_10.out))) (below_size (by repeat (first | (with_reducible first | exact HB.out | apply below_alloc | apply pw_below_drewN | apply below_drew1 | refine below_set ?_ GE152.out) | exact HB.out))))
                            have n2_ := Aside0.mk (blk_below (g := gb152) (o := .cells #[.int .i64 ji5, .int .i64 (wrap64 (2 + (wrap64 (Int.tmod a1 15))))] 39 (0, 0)) (by (with_reducible repeat (first | refine blk_drewN ?_ _ | refine blk_drew ?_ | refine blk_alloc ?_ _)); exact BK152.out) hb)
                            have n3_ := Aside0.mk (below_step (by repeat (first | (with_reducible first | exact HB.out | apply below_alloc | apply pw_below_drewN | apply below_drew1 | refine below_set ?_ GE152.out) | exact HB.out)) hb)
                            clear HO_10
                            clear BK152
                            clear HB
                            have HO_10 := n0_
                            have HO169 := n1_
                            have BK152 := n2_
                            have HB := n3_
                            clear n0_ n1_ n2_ n3_
                            clear hb ho67
                            refine hK.out _ _ ⟨(blk_cell BK152.out 0).trans rfl, (blk_cell BK152.out 1).trans rfl⟩ (fun hHeld => ?_)
                            clear hK K
                            refine norm_ (a' := ?_) ?_ ?_
                            rotate_left
                            · show Act.put _ (some 102) _ = _
                              simp only [Act.put, List.setIfInBounds_toArray, List.set_cons_zero, List.set_cons_succ, i64_w, i32_w]
                              rfl
                            refine one_ (i := 4) (N := some 100) #[true, true, true, true, true, true, true, false, false, false, false, false, false] rfl rfl (one_of HT_.out (by kernel_rfl)) (by decide) (fun K hK => ?_)
                            refine Kd.R_make_step (Kd.int .i64) _ 3 (by rfl) (N := 100) rfl 30 _ _ rfl ji5 rfl rfl Try.underlying30 (.int .i64 0) 8 info3 rfl (by decide) (by omega) 0 (ok := fun _ => True) (okp := fun _ => True) rfl (fun _ hk => hk) trivial (of_decide_eq_true (by first | (with_reducible assumption) | assumption)) (Nat.le_trans (Nat.mul_le_mul_right _ (of_decide_eq_true (by first | (with_reducible assumption) | assumption) : ji5.toNat ≤ 35184372088832)) (by omega)) (Below.refl _ _) (Nat.le_refl _) ?_
                            intro v165 w68 ho69 hb hg_ hnew_
                            clear hg_ hnew_
                            (first | rw [← Ny164.out] at ho69 | (simp only [Int.reduceToNat] at ho69; rw [← Ny164.out] at ho69))
                            have n0_ := Aside0.mk (Kd.R_elder' (by (with_reducible repeat (first | apply Kd.R_alloc | apply Kd.R_drewN | apply Kd.R_drew)); exact HO_10.out) (Kd.R_base ho69) hb)
                            have n1_ := Aside0.mk (Kd.R_elder' (by (with_reducible repeat (first | apply Kd.R_alloc | apply Kd.R_drewN | apply Kd.R_drew)); exact HO169.out) (Kd.R_base ho69) hb)
                            have n2_ := Aside0.mk (Kd.R_lower (Kd.R_new' (Kd.R_new' ho69 (Kd.R_lt (by (with_reducible repeat (first | apply Kd.R_alloc | apply Kd.R_drewN | apply Kd.R_drew)); exact HO_10.out))) (Kd.R_lt (by (with_reducible repeat (first | apply Kd.R_alloc | apply Kd.R_drewN | apply Kd.R_drew)); exact HO169.out))) (below_size (by repeat (first | (with_reducible first | exact HB.out | apply below_alloc | apply pw_below_drewN | apply below_drew1 | refine below_set ?_ GE152.out) | exact HB.out))))
                            have n3_ := Aside0.mk (blk_below (g := gb152) (o := .cells #[.int .i64 ji5, .int .i64 (wrap64 (2 + (wrap64 (Int.tmod a1 15))))] 39 (0, 0)) (by (with_reducible repeat (first | refine blk_drewN ?_ _ | refine blk_drew ?_ | refine blk_alloc ?_ _)); exact BK152.out) hb)
                            have n4_ := Aside0.mk (below_step (by repeat (first | (with_reducible first | exact HB.out | apply below_alloc | apply pw_below_drewN | apply below_drew1 | refine below_set ?_ GE152.out) | exact HB.out)) hb)
                            clear HO_10
                            clear HO169
                            clear BK152
                            clear HB
                            have HO_10 := n0_
                            have HO169 := n1_
                            have HO166 := n2_
                            have BK152 := n3_
                            have HB := n4_
                            clear n0_ n1_ n2_ n3_ n4_
                            clear hb ho69
                            refine hK.out _ _ ⟨(blk_cell BK152.out 0).trans rfl, (blk_cell BK152.out 1).trans rfl⟩ (fun hHeld => ?_)
                            clear hK K
                            refine norm_ (a' := ?_) ?_ ?_
                            rotate_left
                            · show Act.put _ (some 100) _ = _
                              simp only [Act.put, List.setIfInBounds_toArray, List.set_cons_zero, List.set_cons_succ, i64_w, i32_w]
                              rfl
                            exact norm_ (by simp only [putAll, Act.put, List.setIfInBounds_toArray, List.set_cons_zero, List.set_cons_succ]) (hCont (v165, v168) _ ⟨hHeld, (by (with_reducible repeat (first | apply Kd.R_alloc | apply Kd.R_drewN | apply Kd.R_drew)); exact Kd.R_mono HO166.out (fun _ hk => ⟨hk.2, hk.1.2⟩)), (by (with_reducible repeat (first | apply Kd.R_alloc | apply Kd.R_drewN | apply Kd.R_drew)); exact Kd.R_mono HO169.out (fun _ hk => ⟨hk.2, hk.1.2⟩)), (by (with_reducible repeat (first | apply Kd.R_alloc | apply Kd.R_drewN | apply Kd.R_drew)); exact Kd.R_mono HO_10.out (fun _ hk => ⟨hk.2, hk.1.2⟩)), (by (with_reducible repeat (first | refine blk_drewN ?_ _ | refine blk_drew ?_ | refine blk_alloc ?_ _)); exact BK152.out), (by repeat (first | (with_reducible first | exact HB.out | apply below_alloc | apply pw_below_drewN | apply below_drew1 | refine below_set ?_ GE152.out) | exact HB.out))⟩)
                        rintro ⟨v165, v168⟩ w70 ⟨hS_, h0_, h1_, h2_, h3_, h4_⟩
                        have n0_ : Aside0 (Kd.R (Kd.int .i64) 3 w70 w.heap.size (fun k_ => some k_ ≠ (v168 : Value).ownBlock ∧ some k_ ≠ (.slice Ao64 x10_1.length co64 : Value).ownBlock) v165 y164) := ⟨h0_⟩
                        have n1_ : Aside0 (Kd.R (Kd.int .i64) 3 w70 w.heap.size (fun k_ => some k_ ≠ (v165 : Value).ownBlock ∧ some k_ ≠ (.slice Ao64 x10_1.length co64 : Value).ownBlock) v168 y167) := ⟨h1_⟩
                        have n2_ : Aside0 (Kd.R (Kd.int .i64) 3 w70 w.heap.size (fun k_ => some k_ ≠ (v165 : Value).ownBlock ∧ some k_ ≠ (v168 : Value).ownBlock) (.slice Ao64 x10_1.length co64) x10_1) := ⟨h2_⟩
                        have n3_ : Aside0 (w70.heap[gb152]? = some (.cells #[.int .i64 ji5, .int .i64 (wrap64 (2 + (wrap64 (Int.tmod a1 15))))] 39 (0, 0))) := ⟨h3_⟩
                        have n4_ : Aside0 (Below w.heap.size w w70) := ⟨h4_⟩
                        clear HO_10
                        clear BK152
                        clear HB
                        clear h0_ h1_ h2_ h3_ h4_
                        have HO166 := n0_
                        have HO169 := n1_
                        have HO_10 := n2_
                        have BK152 := n3_
                        have HB := n4_
                        clear n0_ n1_ n2_ n3_ n4_
                        have hHeld : w70.cell? ⟨gb152, 0, none⟩ = some (.int .i64 ji5) ∧ w70.cell? ⟨gb152, 1, none⟩ = some (.int .i64 (wrap64 (2 + (wrap64 (Int.tmod a1 15))))) := hS_
                        obtain ⟨Ao71, co71, eo71⟩ := Kd.R_slice HO166.out
                        (first | subst eo71 | (injection eo71 with f1_ f2_ f3_; have f4_ := f1_.symm; have f5_ := f3_.symm; clear f1_ f2_ f3_; subst f4_; subst f5_))
                        obtain ⟨Ao72, co72, eo72⟩ := Kd.R_slice HO169.out
                        (first | subst eo72 | (injection eo72 with f1_ f2_ f3_; have f4_ := f1_.symm; have f5_ := f3_.symm; clear f1_ f2_ f3_; subst f4_; subst f5_))
                        refine norm_ (a' := ?_) ?_ ?_
                        rotate_left
                        · simp only [putAll, Act.put, List.setIfInBounds_toArray, List.set_cons_zero, List.set_cons_succ]
                          rfl
                        refine one_ (i := 7) (N := some 103) #[true, true, true, true, true, true, true, true, false, false, false, false, false] rfl rfl (one_of HT_.out (by kernel_rfl)) (by decide) (fun K hK => ?_)
                        refine goes_ Try.func22 (by kernel_rfl) rfl #[.agg #[.int .i64 ji5, .int .i64 (wrap64 (2 + (wrap64 (Int.tmod a1 15))))], .slice Ao64 x10_1.length co64, .slice Ao71 y164.length co71, .slice Ao72 y167.length co72] (by rfl) rfl rfl (by (try simp only [List.map_toArray, List.map_cons, List.map_nil]); first | done | (simp only [hji5]; rfl) | rfl | (simp only [List.length_drop, List.length_take]; rfl)) ?_
                        with_reducible refine (chooser_Pick.calls k1 ji5 (wrap64 (2 + (wrap64 (Int.tmod a1 15)))) _ _ x10_1 _ _ y164 _ _ y167 t170 t171 _ ?side1 ?side2 ?side3 ?side4 ?side5 ?side6 A46.out).mono ?_
                        (case side1 => repeat (first | exact (Kd.R_reads' HO_10.out).2.2 | (with_reducible refine Kd.C_alloc ?_ _) | (with_reducible refine Kd.C_drewN ?_ _) | (with_reducible refine Kd.C_drew ?_)))
                        (case side2 => exact (Kd.R_reads' HO_10.out).2.1)
                        (case side3 => repeat (first | exact (Kd.R_reads' HO166.out).2.2 | (with_reducible refine Kd.C_alloc ?_ _) | (with_reducible refine Kd.C_drewN ?_ _) | (with_reducible refine Kd.C_drew ?_)))
                        (case side4 => exact (Kd.R_reads' HO166.out).2.1)
                        (case side5 => repeat (first | exact (Kd.R_reads' HO169.out).2.2 | (with_reducible refine Kd.C_alloc ?_ _) | (with_reducible refine Kd.C_drewN ?_ _) | (with_reducible refine Kd.C_drew ?_)))
                        (case side6 => exact (Kd.R_reads' HO169.out).2.1)
                        rintro e w73 ⟨rfl, hb⟩
                        refine ⟨_, rfl, ?_⟩
                        have n0_ := Aside0.mk (Kd.R_below (by (with_reducible repeat (first | apply Kd.R_alloc | apply Kd.R_drewN | apply Kd.R_drew)); exact HO_10.out) hb)
                        have n1_ := Aside0.mk (Kd.R_below (by (with_reducible repeat (first | apply Kd.R_alloc | apply Kd.R_drewN | apply Kd.R_drew)); exact HO166.out) hb)
                        have n2_ := Aside0.mk (Kd.R_below (by (with_reducible repeat (first | apply Kd.R_alloc | apply Kd.R_drewN | apply Kd.R_drew)); exact HO169.out) hb)
                        have n3_ := Aside0.mk (blk_below (g := gb152) (o := .cells #[.int .i64 ji5, .int .i64 (wrap64 (2 + (wrap64 (Int.tmod a1 15))))] 39 (0, 0)) (by (with_reducible repeat (first | refine blk_drewN ?_ _ | refine blk_drew ?_ | refine blk_alloc ?_ _)); exact BK152.out) hb)
                        have n4_ := Aside0.mk (below_step (by repeat (first | (with_reducible first | exact HB.out | apply below_alloc | apply pw_below_drewN | apply below_drew1 | refine below_set ?_ GE152.out) | exact HB.out)) hb)
                        clear HO_10
                        clear HO166
                        clear HO169
                        clear BK152
                        clear HB
                        have HO_10 := n0_
                        have HO166 := n1_
                        have HO169 := n2_
                        have BK152 := n3_
                        have HB := n4_
                        clear n0_ n1_ n2_ n3_ n4_
                        (try clear hb)
                        (try clear hb2)
                        (try clear hk)
                        (try clear hi)
                        refine hK.out _ _ ⟨(blk_cell BK152.out 0).trans rfl, (blk_cell BK152.out 1).trans rfl⟩ (fun hHeld => ?_)
                        clear hK K
                        refine norm_ (a' := ?_) ?_ ?_
                        rotate_left
                        · show Act.put _ (some 103) _ = _
                          simp only [Act.put, List.setIfInBounds_toArray, List.set_cons_zero, List.set_cons_succ, i64_w, i32_w]
                          rfl
                        refine pure_ (i := 8) (N := some 95) (v := ?_) (a' := ?_) #[true, true, true, true, true, true, true, true, true, false, false, false, false] rfl rfl (any_of HT_.out (by kernel_rfl)) (fun _ _ _ h => h) (Or.inl ⟨by rfl, ?_⟩) ?_ ?_
                        rotate_left
                        · intro w'
                          go_simp
                          with_reducible rfl
                        rotate_left
                        · simp only [Act.put, List.setIfInBounds_toArray, List.set_cons_zero, List.set_cons_succ, i64_w, i32_w]
                          rfl
                        refine pure_ (i := 9) (N := some 104) (v := ?_) (a' := ?_) #[true, true, true, true, true, true, true, true, true, true, false, false, false] rfl rfl (any_of HT_.out (by kernel_rfl)) (fun _ _ _ h => h) (Or.inl ⟨by rfl, ?_⟩) ?_ ?_
                        rotate_left
                        · intro w'
                          go_simp
                          with_reducible rfl
                        rotate_left
                        · simp only [Act.put, List.setIfInBounds_toArray, List.set_cons_zero, List.set_cons_succ, i64_w, i32_w]
                          rfl
                        refine pure_ (i := 10) (N := some 105) (v := ?_) (a' := ?_) #[true, true, true, true, true, true, true, true, true, true, true, false, false] rfl rfl (any_of HT_.out (by kernel_rfl)) (fun _ _ _ h => h) (Or.inl ⟨by rfl, ?_⟩) ?_ ?_
                        rotate_left
                        · intro w'
                          go_simp
                          with_reducible rfl
                        rotate_left
                        · simp only [Act.put, List.setIfInBounds_toArray, List.set_cons_zero, List.set_cons_succ, i64_w, i32_w]
                          rfl
                        refine pure_ (i := 11) (N := some 16) (v := ?_) (a' := ?_) #[true, true, true, true, true, true, true, true, true, true, true, true, false] rfl rfl (any_of HT_.out (by kernel_rfl)) (fun _ _ _ h => h) (Or.inl ⟨by rfl, ?_⟩) ?_ ?_
                        rotate_left
                        · intro w'
                          go_simp
                          with_reducible rfl
                        rotate_left
                        · simp only [Act.put, List.setIfInBounds_toArray, List.set_cons_zero, List.set_cons_succ, i64_w, i32_w]
                          rfl
                        refine pure_ (i := 12) (N := some 17) (v := ?_) (a' := ?_) #[true, true, true, true, true, true, true, true, true, true, true, true, true] rfl rfl (any_of HT_.out (by kernel_rfl)) (fun _ _ _ h => h) (Or.inl ⟨by rfl, ?_⟩) ?_ ?_
                        rotate_left
                        · intro w'
                          go_simp
                          with_reducible rfl
                        rotate_left
                        · simp only [Act.put, List.setIfInBounds_toArray, List.set_cons_zero, List.set_cons_succ, i64_w, i32_w]
                          rfl
                        refine done_ (done_of HT_.out (by kernel_rfl)) ?_
                        try go_wp2_with (first | ((with_reducible refine gate_callee (f := 24) rfl ?_); refine goesL_ (some 108) rfl rfl Try.func24 (by kernel_rfl) rfl #[] rfl (by (try simp only [List.map_toArray, List.map_cons, List.map_nil]); first | done | rfl | (simp only [List.length_drop, List.length_take]; rfl)) ?_; (with_reducible refine (stopcocklaw12_awake.calls k1  true _ A48.out).mono ?_); rintro e w74 ⟨rfl, hb⟩; refine ⟨_, rfl, ?_⟩; have n0_ := Aside0.mk (Kd.R_below (by (with_reducible repeat (first | apply Kd.R_alloc | apply Kd.R_drewN | apply Kd.R_drew)); exact HO_10.out) hb); have n1_ := Aside0.mk (Kd.R_below (by (with_reducible repeat (first | apply Kd.R_alloc | apply Kd.R_drewN | apply Kd.R_drew)); exact HO166.out) hb); have n2_ := Aside0.mk (Kd.R_below (by (with_reducible repeat (first | apply Kd.R_alloc | apply Kd.R_drewN | apply Kd.R_drew)); exact HO169.out) hb); have n3_ := Aside0.mk (blk_below (g := gb152) (o := .cells #[.int .i64 ji5, .int .i64 (wrap64 (2 + (wrap64 (Int.tmod a1 15))))] 39 (0, 0)) (by (with_reducible repeat (first | refine blk_drewN ?_ _ | refine blk_drew ?_ | refine blk_alloc ?_ _)); exact BK152.out) hb); have n4_ := Aside0.mk (below_step (by repeat (first | (with_reducible first | exact HB.out | apply below_alloc | apply pw_below_drewN | apply below_drew1 | refine below_set ?_ GE152.out) | exact HB.out)) hb); clear HO_10; clear HO166; clear HO169; clear BK152; clear HB; have HO_10 := n0_; have HO166 := n1_; have HO169 := n2_; have BK152 := n3_; have HB := n4_; clear n0_ n1_ n2_ n3_ n4_; (try clear hb); (try clear hb2); (try clear hk); (try clear hi)))
                        go_ret
                        exact ⟨by first | rfl | (simp [errW_none, errW_some] <;> rfl) | (simp only [← hji5]; first | rfl | (simp [errW_none, errW_some] <;> rfl)) | (simp [*, errW_none, errW_some] <;> rfl), by repeat (first | (with_reducible first | exact HB.out | apply below_alloc | apply pw_below_drewN | apply below_drew1 | refine below_set ?_ GE152.out) | exact HB.out)⟩
                    · replace c49 := Bool.eq_false_iff.mpr c49
                      subst c49
                      have H1 : (some false) = some r := by rw [if_neg (show ¬ (false = true) by decide)] at H; exact H
                      clear H
                      have H := H1
                      clear H1
                      obtain rfl := Option.some.inj H
                      have hcz75_0 : wr.cell? ⟨gb152, 0, none⟩ = some (.int .i64 ji5) := (blk_cell BK152.out 0).trans rfl
                      have hcz75_1 : wr.cell? ⟨gb152, 1, none⟩ = some (.int .i64 (wrap64 (2 + (wrap64 (Int.tmod a1 15))))) := (blk_cell BK152.out 1).trans rfl
                      have hfz75_0 := blk_frozen BK152.out 0
                      have hfz75_1 := blk_frozen BK152.out 1
                      obtain ⟨Ao76, co76, eo76⟩ := Kd.R_slice HO_10.out
                      subst eo76
                      try go_wp2
                      have n0_ := Aside0.mk (Kd.R_drew HO_10.out)
                      have n1_ := Aside0.mk (blk_drew BK152.out)
                      have n2_ := Aside0.mk (below_drew1 HB.out)
                      clear HO_10
                      clear BK152
                      clear HB
                      have HO_10 := n0_
                      have BK152 := n1_
                      have HB := n2_
                      clear n0_ n1_ n2_
                      refine start_ (n := 13) (S := fun w' => w'.cell? ⟨gb152, 0, none⟩ = some (.int .i64 ji5) ∧ w'.cell? ⟨gb152, 1, none⟩ = some (.int .i64 (wrap64 (2 + (wrap64 (Int.tmod a1 15)))))) (ds := []) #[false, false, false, false, false, false, false, false, false, false, false, false, false] (by kernel_rfl) rfl rfl ⟨(blk_cell BK152.out 0).trans rfl, (blk_cell BK152.out 1).trans rfl⟩ (fun hHeld => ?_); refine with_tabW stopcocklaw12_ChooserSpread.tab16 stopcocklaw12_ChooserSpread.bits16 (fun HT_ HW_ => ?_)
                      generalize wr.drew = w77 at HO_10 BK152 HB hHeld ⊢
                      refine pure_ (i := 1) (N := some 97) (v := ?_) (a' := ?_) #[false, true, false, false, false, false, false, false, false, false, false, false, false] rfl rfl (any_of HT_.out (by kernel_rfl)) (fun _ _ _ h => h) (Or.inl ⟨by rfl, ?_⟩) ?_ ?_
                      rotate_left
                      · intro w'
                        go_simp
                        with_reducible rfl
                      rotate_left
                      · simp only [Act.put, List.setIfInBounds_toArray, List.set_cons_zero, List.set_cons_succ, i64_w, i32_w]
                        rfl
                      refine pure_ (i := 2) (N := some 98) (v := ?_) (a' := ?_) #[false, true, true, false, false, false, false, false, false, false, false, false, false] rfl rfl (any_of HT_.out (by kernel_rfl)) (fun _ _ _ h => h) (Or.inl ⟨by rfl, ?_⟩) ?_ ?_
                      rotate_left
                      · intro w'
                        go_simp
                        with_reducible rfl
                      rotate_left
                      · simp only [Act.put, List.setIfInBounds_toArray, List.set_cons_zero, List.set_cons_succ, i64_w, i32_w]
                        rfl
                      refine pure_ (i := 5) (N := some 101) (v := ?_) (a' := ?_) #[false, true, true, false, false, true, false, false, false, false, false, false, false] rfl rfl (any_of HT_.out (by kernel_rfl)) (fun _ _ _ h => h) (Or.inl ⟨by rfl, ?_⟩) ?_ ?_
                      rotate_left
                      · intro w'
                        go_simp
                        with_reducible rfl
                      rotate_left
                      · simp only [Act.put, List.setIfInBounds_toArray, List.set_cons_zero, List.set_cons_succ, i64_w, i32_w]
                        rfl
                      refine take_ (i := 0) (N := some 96) (v := ?_) (a' := ?_) #[true, true, true, false, false, true, false, false, false, false, false, false, false] rfl rfl (take_ofW HT_.out HW_.out (by kernel_rfl)) (fun _ _ _ h => h) (Or.inl ⟨by rfl, ?_⟩) hHeld ?_ ?_
                      rotate_left
                      · rintro w' ⟨s0, s1⟩
                        go_simp
                        with_reducible rfl
                      rotate_left
                      · simp only [Act.put, List.setIfInBounds_toArray, List.set_cons_zero, List.set_cons_succ, i64_w, i32_w]
                        rfl
                      refine take_ (i := 3) (N := some 99) (v := ?_) (a' := ?_) #[true, true, true, true, false, true, false, false, false, false, false, false, false] rfl rfl (take_ofW HT_.out HW_.out (by kernel_rfl)) (fun _ _ _ h => h) (Or.inl ⟨by rfl, ?_⟩) hHeld ?_ ?_
                      rotate_left
                      · rintro w' ⟨s0, s1⟩
                        go_simp
                        with_reducible rfl
                      rotate_left
                      · simp only [Act.put, List.setIfInBounds_toArray, List.set_cons_zero, List.set_cons_succ, i64_w, i32_w]
                        rfl
                      refine join_ (σ := Value × Value) 6 #[true, true, true, true, true, true, true, false, false, false, false, false, false] (fun s_ => [(100, s_.1), (102, s_.2)]) (fun s_ w' => (w'.cell? ⟨gb152, 0, none⟩ = some (.int .i64 ji5) ∧ w'.cell? ⟨gb152, 1, none⟩ = some (.int .i64 (wrap64 (2 + (wrap64 (Int.tmod a1 15)))))) ∧ (Kd.R (Kd.int .i64) 3 w' w.heap.size (fun k_ => some k_ ≠ (s_.2 : Value).ownBlock ∧ some k_ ≠ (.slice Ao76 x10_1.length co76 : Value).ownBlock) s_.1 y164) ∧ (Kd.R (Kd.int .i64) 3 w' w.heap.size (fun k_ => some k_ ≠ (s_.1 : Value).ownBlock ∧ some k_ ≠ (.slice Ao76 x10_1.length co76 : Value).ownBlock) s_.2 y167) ∧ (Kd.R (Kd.int .i64) 3 w' w.heap.size (fun k_ => some k_ ≠ (s_.1 : Value).ownBlock ∧ some k_ ≠ (s_.2 : Value).ownBlock) (.slice Ao76 x10_1.length co76) x10_1) ∧ (w'.heap[gb152]? = some (.cells #[.int .i64 ji5, .int .i64 (wrap64 (2 + (wrap64 (Int.tmod a1 15))))] 39 (0, 0))) ∧ (Below w.heap.size w w')) ?_ ?_
                      rotate_left
                      · intro hCont
                        refine two_ (i := 4) (j := 6) (Ni := some 100) (Nj := some 102) #[true, true, true, true, true, true, false, false, false, false, false, false, false] #[true, true, true, true, false, true, true, false, false, false, false, false, false] rfl rfl rfl rfl (two_of HT_.out (by kernel_rfl)) (by decide) (by decide) (fun K hK => ?_) (fun K hK => ?_)
                        · skip
                          refine Kd.R_make_step (Kd.int .i64) _ 3 (by rfl) (N := 100) rfl 30 _ _ rfl ji5 rfl rfl Try.underlying30 (.int .i64 0) 8 info3 rfl (by decide) (by omega) 0 (ok := fun _ => True) (okp := fun _ => True) rfl (fun _ hk => hk) trivial (of_decide_eq_true (by first | (with_reducible assumption) | assumption)) (Nat.le_trans (Nat.mul_le_mul_right _ (of_decide_eq_true (by first | (with_reducible assumption) | assumption) : ji5.toNat ≤ 35184372088832)) (by omega)) (Below.refl _ _) (Nat.le_refl _) ?_
                          intro v165 w78 ho79 hb hg_ hnew_
                          clear hg_ hnew_
                          (first | rw [← Ny164.out] at ho79 | (simp only [Int.reduceToNat] at ho79; rw [← Ny164.out] at ho79))
                          have n0_ := Aside0.mk (Kd.R_elder' (by (with_reducible repeat (first | apply Kd.R_alloc | apply Kd.R_drewN | apply Kd.R_drew)); exact HO_10.out) (Kd.R_base ho79) hb)
                          have n1_ := Aside0.mk (Kd.R_lower (Kd.R_new' ho79 (Kd.R_lt (by (with_reducible repeat (first | apply Kd.R_alloc | apply Kd.R_drewN | apply Kd.R_drew)); exact HO_10.out))) (below_size (by repeat (first | (with_reducible first | exact HB.out | apply below_alloc | apply pw_below_drewN | apply below_drew1 | refine below_set ?_ GE152.out) | exact HB.out))))
                          have n2_ := Aside0.mk (blk_below (g := gb152) (o := .cells #[.int .i64 ji5, .int .i64 (wrap64 (2 + (wrap64 (Int.tmod a1 15))))] 39 (0, 0)) (by (with_reducible repeat (first | refine blk_drewN ?_ _ | refine blk_drew ?_ | refine blk_alloc ?_ _)); exact BK152.out) hb)
                          have n3_ := Aside0.mk (below_step (by repeat (first | (with_reducible first | exact HB.out | apply below_alloc | apply pw_below_drewN | apply below_drew1 | refine below_set ?_ GE152.out) | exact HB.out)) hb)
                          clear HO_10
                          clear BK152
                          clear HB
                          have HO_10 := n0_
                          have HO166 := n1_
                          have BK152 := n2_
                          have HB := n3_
                          clear n0_ n1_ n2_ n3_
                          clear hb ho79
                          refine hK.out _ _ ⟨(blk_cell BK152.out 0).trans rfl, (blk_cell BK152.out 1).trans rfl⟩ (fun hHeld => ?_)
                          clear hK K
                          refine norm_ (a' := ?_) ?_ ?_
                          rotate_left
                          · show Act.put _ (some 100) _ = _
                            simp only [Act.put, List.setIfInBounds_toArray, List.set_cons_zero, List.set_cons_succ, i64_w, i32_w]
                            rfl
                          refine one_ (i := 6) (N := some 102) #[true, true, true, true, true, true, true, false, false, false, false, false, false] rfl rfl (one_of HT_.out (by kernel_rfl)) (by decide) (fun K hK => ?_)
                          refine Kd.R_lit_step (Kd.int .i64) _ 3 ?hg (N := 102) ?hd (xs := ([(Int.tmod (wrap64 (a3)) (ji5))] : List Int)) (inner := [.int .i64 (Int.tmod (wrap64 (a3)) (ji5))]) (ok := fun _ => True) (okp := fun _ => True) ?hr ?hp (fun _ hk => hk) trivial (Below.refl _ _) (Nat.le_refl _) (by simp) ?_; (case hd => rfl); (case hg => rfl); (case hr => first | (go_simp; done) | (go_simp; rfl)); (case hp => exact (Reps.one (show Kd.M (Kd.int .i64) _ _ _ (Int.tmod (wrap64 (a3)) (ji5)) [.int .i64 (Int.tmod (wrap64 (a3)) (ji5))] from rfl) (Reps.none _ _)))
                          intro v168 w80 ho81 hb hg_ hnew_
                          clear hg_ hnew_
                          (first | rw [← Ny167.out] at ho81 | (simp only [Int.reduceToNat] at ho81; rw [← Ny167.out] at ho81))
                          have n0_ := Aside0.mk (Kd.R_elder' (by (with_reducible repeat (first | apply Kd.R_alloc | apply Kd.R_drewN | apply Kd.R_drew)); exact HO_10.out) (Kd.R_base ho81) hb)
                          have n1_ := Aside0.mk (Kd.R_elder' (by (with_reducible repeat (first | apply Kd.R_alloc | apply Kd.R_drewN | apply Kd.R_drew)); exact HO166.out) (Kd.R_base ho81) hb)
                          have n2_ := Aside0.mk (Kd.R_lower (Kd.R_new' (Kd.R_new' ho81 (Kd.R_lt (by (with_reducible repeat (first | apply Kd.R_alloc | apply Kd.R_drewN | apply Kd.R_drew)); exact HO_10.out))) (Kd.R_lt (by (with_reducible repeat (first | apply Kd.R_alloc | apply Kd.R_drewN | apply Kd.R_drew)); exact HO166.out))) (below_size (by repeat (first | (with_reducible first | exact HB.out | apply below_alloc | apply pw_below_drewN | apply below_drew1 | refine below_set ?_ GE152.out) | exact HB.out))))
                          have n3_ := Aside0.mk (blk_below (g := gb152) (o := .cells #[.int .i64 ji5, .int .i64 (wrap64 (2 + (wrap64 (Int.tmod a1 15))))] 39 (0, 0)) (by (with_reducible repeat (first | refine blk_drewN ?_ _ | refine blk_drew ?_ | refine blk_alloc ?_ _)); exact BK152.out) hb)
                          have n4_ := Aside0.mk (below_step (by repeat (first | (with_reducible first | exact HB.out | apply below_alloc | apply pw_below_drewN | apply below_drew1 | refine below_set ?_ GE152.out) | exact HB.out)) hb)
                          clear HO_10
                          clear HO166
                          clear BK152
                          clear HB
                          have HO_10 := n0_
                          have HO166 := n1_
                          have HO169 := n2_
                          have BK152 := n3_
                          have HB := n4_
                          clear n0_ n1_ n2_ n3_ n4_
                          clear hb ho81
                          refine hK.out _ _ ⟨(blk_cell BK152.out 0).trans rfl, (blk_cell BK152.out 1).trans rfl⟩ (fun hHeld => ?_)
                          clear hK K
                          refine norm_ (a' := ?_) ?_ ?_
                          rotate_left
                          · show Act.put _ (some 102) _ = _
                            simp only [Act.put, List.setIfInBounds_toArray, List.set_cons_zero, List.set_cons_succ, i64_w, i32_w]
                            rfl
                          exact norm_ (by simp only [putAll, Act.put, List.setIfInBounds_toArray, List.set_cons_zero, List.set_cons_succ]) (hCont (v165, v168) _ ⟨hHeld, (by (with_reducible repeat (first | apply Kd.R_alloc | apply Kd.R_drewN | apply Kd.R_drew)); exact Kd.R_mono HO166.out (fun _ hk => ⟨hk.2, hk.1.2⟩)), (by (with_reducible repeat (first | apply Kd.R_alloc | apply Kd.R_drewN | apply Kd.R_drew)); exact Kd.R_mono HO169.out (fun _ hk => ⟨hk.2, hk.1.2⟩)), (by (with_reducible repeat (first | apply Kd.R_alloc | apply Kd.R_drewN | apply Kd.R_drew)); exact Kd.R_mono HO_10.out (fun _ hk => ⟨hk.1.2, hk.2⟩)), (by (with_reducible repeat (first | refine blk_drewN ?_ _ | refine blk_drew ?_ | refine blk_alloc ?_ _)); exact BK152.out), (by repeat (first | (with_reducible first | exact HB.out | apply below_alloc | apply pw_below_drewN | apply below_drew1 | refine below_set ?_ GE152.out) | exact HB.out))⟩)
                        · skip
                          refine Kd.R_lit_step (Kd.int .i64) _ 3 ?hg (N := 102) ?hd (xs := ([(Int.tmod (wrap64 (a3)) (ji5))] : List Int)) (inner := [.int .i64 (Int.tmod (wrap64 (a3)) (ji5))]) (ok := fun _ => True) (okp := fun _ => True) ?hr ?hp (fun _ hk => hk) trivial (Below.refl _ _) (Nat.le_refl _) (by simp) ?_; (case hd => rfl); (case hg => rfl); (case hr => first | (go_simp; done) | (go_simp; rfl)); (case hp => exact (Reps.one (show Kd.M (Kd.int .i64) _ _ _ (Int.tmod (wrap64 (a3)) (ji5)) [.int .i64 (Int.tmod (wrap64 (a3)) (ji5))] from rfl) (Reps.none _ _)))
                          intro v168 w78 ho79 hb hg_ hnew_
                          clear hg_ hnew_
                          (first | rw [← Ny167.out] at ho79 | (simp only [Int.reduceToNat] at ho79; rw [← Ny167.out] at ho79))
                          have n0_ := Aside0.mk (Kd.R_elder' (by (with_reducible repeat (first | apply Kd.R_alloc | apply Kd.R_drewN | apply Kd.R_drew)); exact HO_10.out) (Kd.R_base ho79) hb)
                          have n1_ := Aside0.mk (Kd.R_lower (Kd.R_new' ho79 (Kd.R_lt (by (with_reducible repeat (first | apply Kd.R_alloc | apply Kd.R_drewN | apply Kd.R_drew)); exact HO_10.out))) (below_size (by repeat (first | (with_reducible first | exact HB.out | apply below_alloc | apply pw_below_drewN | apply below_drew1 | refine below_set ?_ GE152.out) | exact HB.out))))
                          have n2_ := Aside0.mk (blk_below (g := gb152) (o := .cells #[.int .i64 ji5, .int .i64 (wrap64 (2 + (wrap64 (Int.tmod a1 15))))] 39 (0, 0)) (by (with_reducible repeat (first | refine blk_drewN ?_ _ | refine blk_drew ?_ | refine blk_alloc ?_ _)); exact BK152.out) hb)
                          have n3_ := Aside0.mk (below_step (by repeat (first | (with_reducible first | exact HB.out | apply below_alloc | apply pw_below_drewN | apply below_drew1 | refine below_set ?_ GE152.out) | exact HB.out)) hb)
                          clear HO_10
                          clear BK152
                          clear HB
                          have HO_10 := n0_
                          have HO169 := n1_
                          have BK152 := n2_
                          have HB := n3_
                          clear n0_ n1_ n2_ n3_
                          clear hb ho79
                          refine hK.out _ _ ⟨(blk_cell BK152.out 0).trans rfl, (blk_cell BK152.out 1).trans rfl⟩ (fun hHeld => ?_)
                          clear hK K
                          refine norm_ (a' := ?_) ?_ ?_
                          rotate_left
                          · show Act.put _ (some 102) _ = _
                            simp only [Act.put, List.setIfInBounds_toArray, List.set_cons_zero, List.set_cons_succ, i64_w, i32_w]
                            rfl
                          refine one_ (i := 4) (N := some 100) #[true, true, true, true, true, true, true, false, false, false, false, false, false] rfl rfl (one_of HT_.out (by kernel_rfl)) (by decide) (fun K hK => ?_)
                          refine Kd.R_make_step (Kd.int .i64) _ 3 (by rfl) (N := 100) rfl 30 _ _ rfl ji5 rfl rfl Try.underlying30 (.int .i64 0) 8 info3 rfl (by decide) (by omega) 0 (ok := fun _ => True) (okp := fun _ => True) rfl (fun _ hk => hk) trivial (of_decide_eq_true (by first | (with_reducible assumption) | assumption)) (Nat.le_trans (Nat.mul_le_mul_right _ (of_decide_eq_true (by first | (with_reducible assumption) | assumption) : ji5.toNat ≤ 35184372088832)) (by omega)) (Below.refl _ _) (Nat.le_refl _) ?_
                          intro v165 w80 ho81 hb hg_ hnew_
                          clear hg_ hnew_
                          (first | rw [← Ny164.out] at ho81 | (simp only [Int.reduceToNat] at ho81; rw [← Ny164.out] at ho81))
                          have n0_ := Aside0.mk (Kd.R_elder' (by (with_reducible repeat (first | apply Kd.R_alloc | apply Kd.R_drewN | apply Kd.R_drew)); exact HO_10.out) (Kd.R_base ho81) hb)
                          have n1_ := Aside0.mk (Kd.R_elder' (by (with_reducible repeat (first | apply Kd.R_alloc | apply Kd.R_drewN | apply Kd.R_drew)); exact HO169.out) (Kd.R_base ho81) hb)
                          have n2_ := Aside0.mk (Kd.R_lower (Kd.R_new' (Kd.R_new' ho81 (Kd.R_lt (by (with_reducible repeat (first | apply Kd.R_alloc | apply Kd.R_drewN | apply Kd.R_drew)); exact HO_10.out))) (Kd.R_lt (by (with_reducible repeat (first | apply Kd.R_alloc | apply Kd.R_drewN | apply Kd.R_drew)); exact HO169.out))) (below_size (by repeat (first | (with_reducible first | exact HB.out | apply below_alloc | apply pw_below_drewN | apply below_drew1 | refine below_set ?_ GE152.out) | exact HB.out))))
                          have n3_ := Aside0.mk (blk_below (g := gb152) (o := .cells #[.int .i64 ji5, .int .i64 (wrap64 (2 + (wrap64 (Int.tmod a1 15))))] 39 (0, 0)) (by (with_reducible repeat (first | refine blk_drewN ?_ _ | refine blk_drew ?_ | refine blk_alloc ?_ _)); exact BK152.out) hb)
                          have n4_ := Aside0.mk (below_step (by repeat (first | (with_reducible first | exact HB.out | apply below_alloc | apply pw_below_drewN | apply below_drew1 | refine below_set ?_ GE152.out) | exact HB.out)) hb)
                          clear HO_10
                          clear HO169
                          clear BK152
                          clear HB
                          have HO_10 := n0_
                          have HO169 := n1_
                          have HO166 := n2_
                          have BK152 := n3_
                          have HB := n4_
                          clear n0_ n1_ n2_ n3_ n4_
                          clear hb ho81
                          refine hK.out _ _ ⟨(blk_cell BK152.out 0).trans rfl, (blk_cell BK152.out 1).trans rfl⟩ (fun hHeld => ?_)
                          clear hK K
                          refine norm_ (a' := ?_) ?_ ?_
                          rotate_left
                          · show Act.put _ (some 100) _ = _
                            simp only [Act.put, List.setIfInBounds_toArray, List.set_cons_zero, List.set_cons_succ, i64_w, i32_w]
                            rfl
                          exact norm_ (by simp only [putAll, Act.put, List.setIfInBounds_toArray, List.set_cons_zero, List.set_cons_succ]) (hCont (v165, v168) _ ⟨hHeld, (by (with_reducible repeat (first | apply Kd.R_alloc | apply Kd.R_drewN | apply Kd.R_drew)); exact Kd.R_mono HO166.out (fun _ hk => ⟨hk.2, hk.1.2⟩)), (by (with_reducible repeat (first | apply Kd.R_alloc | apply Kd.R_drewN | apply Kd.R_drew)); exact Kd.R_mono HO169.out (fun _ hk => ⟨hk.2, hk.1.2⟩)), (by (with_reducible repeat (first | apply Kd.R_alloc | apply Kd.R_drewN | apply Kd.R_drew)); exact Kd.R_mono HO_10.out (fun _ hk => ⟨hk.2, hk.1.2⟩)), (by (with_reducible repeat (first | refine blk_drewN ?_ _ | refine blk_drew ?_ | refine blk_alloc ?_ _)); exact BK152.out), (by repeat (first | (with_reducible first | exact HB.out | apply below_alloc | apply pw_below_drewN | apply below_drew1 | refine below_set ?_ GE152.out) | exact HB.out))⟩)
                      rintro ⟨v165, v168⟩ w82 ⟨hS_, h0_, h1_, h2_, h3_, h4_⟩
                      have n0_ : Aside0 (Kd.R (Kd.int .i64) 3 w82 w.heap.size (fun k_ => some k_ ≠ (v168 : Value).ownBlock ∧ some k_ ≠ (.slice Ao76 x10_1.length co76 : Value).ownBlock) v165 y164) := ⟨h0_⟩
                      have n1_ : Aside0 (Kd.R (Kd.int .i64) 3 w82 w.heap.size (fun k_ => some k_ ≠ (v165 : Value).ownBlock ∧ some k_ ≠ (.slice Ao76 x10_1.length co76 : Value).ownBlock) v168 y167) := ⟨h1_⟩
                      have n2_ : Aside0 (Kd.R (Kd.int .i64) 3 w82 w.heap.size (fun k_ => some k_ ≠ (v165 : Value).ownBlock ∧ some k_ ≠ (v168 : Value).ownBlock) (.slice Ao76 x10_1.length co76) x10_1) := ⟨h2_⟩
                      have n3_ : Aside0 (w82.heap[gb152]? = some (.cells #[.int .i64 ji5, .int .i64 (wrap64 (2 + (wrap64 (Int.tmod a1 15))))] 39 (0, 0))) := ⟨h3_⟩
                      have n4_ : Aside0 (Below w.heap.size w w82) := ⟨h4_⟩
                      clear HO_10
                      clear BK152
                      clear HB
                      clear h0_ h1_ h2_ h3_ h4_
                      have HO166 := n0_
                      have HO169 := n1_
                      have HO_10 := n2_
                      have BK152 := n3_
                      have HB := n4_
                      clear n0_ n1_ n2_ n3_ n4_
                      have hHeld : w82.cell? ⟨gb152, 0, none⟩ = some (.int .i64 ji5) ∧ w82.cell? ⟨gb152, 1, none⟩ = some (.int .i64 (wrap64 (2 + (wrap64 (Int.tmod a1 15))))) := hS_
                      obtain ⟨Ao83, co83, eo83⟩ := Kd.R_slice HO166.out
                      (first | subst eo83 | (injection eo83 with f1_ f2_ f3_; have f4_ := f1_.symm; have f5_ := f3_.symm; clear f1_ f2_ f3_; subst f4_; subst f5_))
                      obtain ⟨Ao84, co84, eo84⟩ := Kd.R_slice HO169.out
                      (first | subst eo84 | (injection eo84 with f1_ f2_ f3_; have f4_ := f1_.symm; have f5_ := f3_.symm; clear f1_ f2_ f3_; subst f4_; subst f5_))
                      refine norm_ (a' := ?_) ?_ ?_
                      rotate_left
                      · simp only [putAll, Act.put, List.setIfInBounds_toArray, List.set_cons_zero, List.set_cons_succ]
                        rfl
                      refine one_ (i := 7) (N := some 103) #[true, true, true, true, true, true, true, true, false, false, false, false, false] rfl rfl (one_of HT_.out (by kernel_rfl)) (by decide) (fun K hK => ?_)
                      refine goes_ Try.func22 (by kernel_rfl) rfl #[.agg #[.int .i64 ji5, .int .i64 (wrap64 (2 + (wrap64 (Int.tmod a1 15))))], .slice Ao76 x10_1.length co76, .slice Ao83 y164.length co83, .slice Ao84 y167.length co84] (by rfl) rfl rfl (by (try simp only [List.map_toArray, List.map_cons, List.map_nil]); first | done | (simp only [hji5]; rfl) | rfl | (simp only [List.length_drop, List.length_take]; rfl)) ?_
                      with_reducible refine (chooser_Pick.calls k1 ji5 (wrap64 (2 + (wrap64 (Int.tmod a1 15)))) _ _ x10_1 _ _ y164 _ _ y167 t170 t171 _ ?side1 ?side2 ?side3 ?side4 ?side5 ?side6 A46.out).mono ?_
                      (case side1 => repeat (first | exact (Kd.R_reads' HO_10.out).2.2 | (with_reducible refine Kd.C_alloc ?_ _) | (with_reducible refine Kd.C_drewN ?_ _) | (with_reducible refine Kd.C_drew ?_)))
                      (case side2 => exact (Kd.R_reads' HO_10.out).2.1)
                      (case side3 => repeat (first | exact (Kd.R_reads' HO166.out).2.2 | (with_reducible refine Kd.C_alloc ?_ _) | (with_reducible refine Kd.C_drewN ?_ _) | (with_reducible refine Kd.C_drew ?_)))
                      (case side4 => exact (Kd.R_reads' HO166.out).2.1)
                      (case side5 => repeat (first | exact (Kd.R_reads' HO169.out).2.2 | (with_reducible refine Kd.C_alloc ?_ _) | (with_reducible refine Kd.C_drewN ?_ _) | (with_reducible refine Kd.C_drew ?_)))
                      (case side6 => exact (Kd.R_reads' HO169.out).2.1)
                      rintro e w85 ⟨rfl, hb⟩
                      refine ⟨_, rfl, ?_⟩
                      have n0_ := Aside0.mk (Kd.R_below (by (with_reducible repeat (first | apply Kd.R_alloc | apply Kd.R_drewN | apply Kd.R_drew)); exact HO_10.out) hb)
                      have n1_ := Aside0.mk (Kd.R_below (by (with_reducible repeat (first | apply Kd.R_alloc | apply Kd.R_drewN | apply Kd.R_drew)); exact HO166.out) hb)
                      have n2_ := Aside0.mk (Kd.R_below (by (with_reducible repeat (first | apply Kd.R_alloc | apply Kd.R_drewN | apply Kd.R_drew)); exact HO169.out) hb)
                      have n3_ := Aside0.mk (blk_below (g := gb152) (o := .cells #[.int .i64 ji5, .int .i64 (wrap64 (2 + (wrap64 (Int.tmod a1 15))))] 39 (0, 0)) (by (with_reducible repeat (first | refine blk_drewN ?_ _ | refine blk_drew ?_ | refine blk_alloc ?_ _)); exact BK152.out) hb)
                      have n4_ := Aside0.mk (below_step (by repeat (first | (with_reducible first | exact HB.out | apply below_alloc | apply pw_below_drewN | apply below_drew1 | refine below_set ?_ GE152.out) | exact HB.out)) hb)
                      clear HO_10
                      clear HO166
                      clear HO169
                      clear BK152
                      clear HB
                      have HO_10 := n0_
                      have HO166 := n1_
                      have HO169 := n2_
                      have BK152 := n3_
                      have HB := n4_
                      clear n0_ n1_ n2_ n3_ n4_
                      (try clear hb)
                      (try clear hb2)
                      (try clear hk)
                      (try clear hi)
                      refine hK.out _ _ ⟨(blk_cell BK152.out 0).trans rfl, (blk_cell BK152.out 1).trans rfl⟩ (fun hHeld => ?_)
                      clear hK K
                      refine norm_ (a' := ?_) ?_ ?_
                      rotate_left
                      · show Act.put _ (some 103) _ = _
                        simp only [Act.put, List.setIfInBounds_toArray, List.set_cons_zero, List.set_cons_succ, i64_w, i32_w]
                        rfl
                      refine pure_ (i := 8) (N := some 95) (v := ?_) (a' := ?_) #[true, true, true, true, true, true, true, true, true, false, false, false, false] rfl rfl (any_of HT_.out (by kernel_rfl)) (fun _ _ _ h => h) (Or.inl ⟨by rfl, ?_⟩) ?_ ?_
                      rotate_left
                      · intro w'
                        go_simp
                        with_reducible rfl
                      rotate_left
                      · simp only [Act.put, List.setIfInBounds_toArray, List.set_cons_zero, List.set_cons_succ, i64_w, i32_w]
                        rfl
                      refine pure_ (i := 9) (N := some 104) (v := ?_) (a' := ?_) #[true, true, true, true, true, true, true, true, true, true, false, false, false] rfl rfl (any_of HT_.out (by kernel_rfl)) (fun _ _ _ h => h) (Or.inl ⟨by rfl, ?_⟩) ?_ ?_
                      rotate_left
                      · intro w'
                        go_simp
                        with_reducible rfl
                      rotate_left
                      · simp only [Act.put, List.setIfInBounds_toArray, List.set_cons_zero, List.set_cons_succ, i64_w, i32_w]
                        rfl
                      refine pure_ (i := 10) (N := some 105) (v := ?_) (a' := ?_) #[true, true, true, true, true, true, true, true, true, true, true, false, false] rfl rfl (any_of HT_.out (by kernel_rfl)) (fun _ _ _ h => h) (Or.inl ⟨by rfl, ?_⟩) ?_ ?_
                      rotate_left
                      · intro w'
                        go_simp
                        with_reducible rfl
                      rotate_left
                      · simp only [Act.put, List.setIfInBounds_toArray, List.set_cons_zero, List.set_cons_succ, i64_w, i32_w]
                        rfl
                      refine pure_ (i := 11) (N := some 16) (v := ?_) (a' := ?_) #[true, true, true, true, true, true, true, true, true, true, true, true, false] rfl rfl (any_of HT_.out (by kernel_rfl)) (fun _ _ _ h => h) (Or.inl ⟨by rfl, ?_⟩) ?_ ?_
                      rotate_left
                      · intro w'
                        go_simp
                        with_reducible rfl
                      rotate_left
                      · simp only [Act.put, List.setIfInBounds_toArray, List.set_cons_zero, List.set_cons_succ, i64_w, i32_w]
                        rfl
                      refine pure_ (i := 12) (N := some 17) (v := ?_) (a' := ?_) #[true, true, true, true, true, true, true, true, true, true, true, true, true] rfl rfl (any_of HT_.out (by kernel_rfl)) (fun _ _ _ h => h) (Or.inl ⟨by rfl, ?_⟩) ?_ ?_
                      rotate_left
                      · intro w'
                        go_simp
                        with_reducible rfl
                      rotate_left
                      · simp only [Act.put, List.setIfInBounds_toArray, List.set_cons_zero, List.set_cons_succ, i64_w, i32_w]
                        rfl
                      refine done_ (done_of HT_.out (by kernel_rfl)) ?_
                      try go_wp2_with (first | ((with_reducible refine gate_callee (f := 24) rfl ?_); refine goesL_ (some 108) rfl rfl Try.func24 (by kernel_rfl) rfl #[] rfl (by (try simp only [List.map_toArray, List.map_cons, List.map_nil]); first | done | rfl | (simp only [List.length_drop, List.length_take]; rfl)) ?_; (with_reducible refine (stopcocklaw12_awake.calls k1  false _ A48.out).mono ?_); rintro e w86 ⟨rfl, hb⟩; refine ⟨_, rfl, ?_⟩; have n0_ := Aside0.mk (Kd.R_below (by (with_reducible repeat (first | apply Kd.R_alloc | apply Kd.R_drewN | apply Kd.R_drew)); exact HO_10.out) hb); have n1_ := Aside0.mk (Kd.R_below (by (with_reducible repeat (first | apply Kd.R_alloc | apply Kd.R_drewN | apply Kd.R_drew)); exact HO166.out) hb); have n2_ := Aside0.mk (Kd.R_below (by (with_reducible repeat (first | apply Kd.R_alloc | apply Kd.R_drewN | apply Kd.R_drew)); exact HO169.out) hb); have n3_ := Aside0.mk (blk_below (g := gb152) (o := .cells #[.int .i64 ji5, .int .i64 (wrap64 (2 + (wrap64 (Int.tmod a1 15))))] 39 (0, 0)) (by (with_reducible repeat (first | refine blk_drewN ?_ _ | refine blk_drew ?_ | refine blk_alloc ?_ _)); exact BK152.out) hb); have n4_ := Aside0.mk (below_step (by repeat (first | (with_reducible first | exact HB.out | apply below_alloc | apply pw_below_drewN | apply below_drew1 | refine below_set ?_ GE152.out) | exact HB.out)) hb); clear HO_10; clear HO166; clear HO169; clear BK152; clear HB; have HO_10 := n0_; have HO166 := n1_; have HO169 := n2_; have BK152 := n3_; have HB := n4_; clear n0_ n1_ n2_ n3_ n4_; (try clear hb); (try clear hb2); (try clear hk); (try clear hi)))
                      go_ret
                      exact ⟨by first | rfl | (simp [errW_none, errW_some] <;> rfl) | (simp only [← hji5]; first | rfl | (simp [errW_none, errW_some] <;> rfl)) | (simp [*, errW_none, errW_some] <;> rfl), by repeat (first | (with_reducible first | exact HB.out | apply below_alloc | apply pw_below_drewN | apply below_drew1 | refine below_set ?_ GE152.out) | exact HB.out)⟩
                  · rw [if_neg c47] at H
                    have c47b0 : decide (2 < x12_1) = false := decide_eq_false c47
                    clear c47
                    replace H := Option.bind_eq_some_iff.mp H
                    obtain ⟨t173, A870, H⟩ := H
                    replace H : (if t173 = true then (some (t171 == 0)) else (some false)) = some r := H
                    have A87 := Aside0.mk A870
                    clear A870
                    by_cases c88 : t173 = true
                    · subst c88
                      have H1 : (some (t171 == 0)) = some r := by rw [if_pos rfl] at H; exact H
                      clear H
                      have H := H1
                      clear H1
                      obtain rfl := Option.some.inj H
                      have hcz89_0 : wr.cell? ⟨gb152, 0, none⟩ = some (.int .i64 ji5) := (blk_cell BK152.out 0).trans rfl
                      have hcz89_1 : wr.cell? ⟨gb152, 1, none⟩ = some (.int .i64 (wrap64 (2 + (wrap64 (Int.tmod a1 15))))) := (blk_cell BK152.out 1).trans rfl
                      have hfz89_0 := blk_frozen BK152.out 0
                      have hfz89_1 := blk_frozen BK152.out 1
                      obtain ⟨Ao90, co90, eo90⟩ := Kd.R_slice HO_10.out
                      subst eo90
                      try go_wp2
                      have n0_ := Aside0.mk (Kd.R_drew HO_10.out)
                      have n1_ := Aside0.mk (blk_drew BK152.out)
                      have n2_ := Aside0.mk (below_drew1 HB.out)
                      clear HO_10
                      clear BK152
                      clear HB
                      have HO_10 := n0_
                      have BK152 := n1_
                      have HB := n2_
                      clear n0_ n1_ n2_
                      refine start_ (n := 13) (S := fun w' => w'.cell? ⟨gb152, 0, none⟩ = some (.int .i64 ji5) ∧ w'.cell? ⟨gb152, 1, none⟩ = some (.int .i64 (wrap64 (2 + (wrap64 (Int.tmod a1 15)))))) (ds := []) #[false, false, false, false, false, false, false, false, false, false, false, false, false] (by kernel_rfl) rfl rfl ⟨(blk_cell BK152.out 0).trans rfl, (blk_cell BK152.out 1).trans rfl⟩ (fun hHeld => ?_); refine with_tabW stopcocklaw12_ChooserSpread.tab16 stopcocklaw12_ChooserSpread.bits16 (fun HT_ HW_ => ?_)
                      generalize wr.drew = w91 at HO_10 BK152 HB hHeld ⊢
                      refine pure_ (i := 1) (N := some 97) (v := ?_) (a' := ?_) #[false, true, false, false, false, false, false, false, false, false, false, false, false] rfl rfl (any_of HT_.out (by kernel_rfl)) (fun _ _ _ h => h) (Or.inl ⟨by rfl, ?_⟩) ?_ ?_
                      rotate_left
                      · intro w'
                        go_simp
                        with_reducible rfl
                      rotate_left
                      · simp only [Act.put, List.setIfInBounds_toArray, List.set_cons_zero, List.set_cons_succ, i64_w, i32_w]
                        rfl
                      refine pure_ (i := 2) (N := some 98) (v := ?_) (a' := ?_) #[false, true, true, false, false, false, false, false, false, false, false, false, false] rfl rfl (any_of HT_.out (by kernel_rfl)) (fun _ _ _ h => h) (Or.inl ⟨by rfl, ?_⟩) ?_ ?_
                      rotate_left
                      · intro w'
                        go_simp
                        with_reducible rfl
                      rotate_left
                      · simp only [Act.put, List.setIfInBounds_toArray, List.set_cons_zero, List.set_cons_succ, i64_w, i32_w]
                        rfl
                      refine pure_ (i := 5) (N := some 101) (v := ?_) (a' := ?_) #[false, true, true, false, false, true, false, false, false, false, false, false, false] rfl rfl (any_of HT_.out (by kernel_rfl)) (fun _ _ _ h => h) (Or.inl ⟨by rfl, ?_⟩) ?_ ?_
                      rotate_left
                      · intro w'
                        go_simp
                        with_reducible rfl
                      rotate_left
                      · simp only [Act.put, List.setIfInBounds_toArray, List.set_cons_zero, List.set_cons_succ, i64_w, i32_w]
                        rfl
                      refine take_ (i := 0) (N := some 96) (v := ?_) (a' := ?_) #[true, true, true, false, false, true, false, false, false, false, false, false, false] rfl rfl (take_ofW HT_.out HW_.out (by kernel_rfl)) (fun _ _ _ h => h) (Or.inl ⟨by rfl, ?_⟩) hHeld ?_ ?_
                      rotate_left
                      · rintro w' ⟨s0, s1⟩
                        go_simp
                        with_reducible rfl
                      rotate_left
                      · simp only [Act.put, List.setIfInBounds_toArray, List.set_cons_zero, List.set_cons_succ, i64_w, i32_w]
                        rfl
                      refine take_ (i := 3) (N := some 99) (v := ?_) (a' := ?_) #[true, true, true, true, false, true, false, false, false, false, false, false, false] rfl rfl (take_ofW HT_.out HW_.out (by kernel_rfl)) (fun _ _ _ h => h) (Or.inl ⟨by rfl, ?_⟩) hHeld ?_ ?_
                      rotate_left
                      · rintro w' ⟨s0, s1⟩
                        go_simp
                        with_reducible rfl
                      rotate_left
                      · simp only [Act.put, List.setIfInBounds_toArray, List.set_cons_zero, List.set_cons_succ, i64_w, i32_w]
                        rfl
                      refine join_ (σ := Value × Value) 6 #[true, true, true, true, true, true, true, false, false, false, false, false, false] (fun s_ => [(100, s_.1), (102, s_.2)]) (fun s_ w' => (w'.cell? ⟨gb152, 0, none⟩ = some (.int .i64 ji5) ∧ w'.cell? ⟨gb152, 1, none⟩ = some (.int .i64 (wrap64 (2 + (wrap64 (Int.tmod a1 15)))))) ∧ (Kd.R (Kd.int .i64) 3 w' w.heap.size (fun k_ => some k_ ≠ (s_.2 : Value).ownBlock ∧ some k_ ≠ (.slice Ao90 x10_1.length co90 : Value).ownBlock) s_.1 y164) ∧ (Kd.R (Kd.int .i64) 3 w' w.heap.size (fun k_ => some k_ ≠ (s_.1 : Value).ownBlock ∧ some k_ ≠ (.slice Ao90 x10_1.length co90 : Value).ownBlock) s_.2 y167) ∧ (Kd.R (Kd.int .i64) 3 w' w.heap.size (fun k_ => some k_ ≠ (s_.1 : Value).ownBlock ∧ some k_ ≠ (s_.2 : Value).ownBlock) (.slice Ao90 x10_1.length co90) x10_1) ∧ (w'.heap[gb152]? = some (.cells #[.int .i64 ji5, .int .i64 (wrap64 (2 + (wrap64 (Int.tmod a1 15))))] 39 (0, 0))) ∧ (Below w.heap.size w w')) ?_ ?_
                      rotate_left
                      · intro hCont
                        refine two_ (i := 4) (j := 6) (Ni := some 100) (Nj := some 102) #[true, true, true, true, true, true, false, false, false, false, false, false, false] #[true, true, true, true, false, true, true, false, false, false, false, false, false] rfl rfl rfl rfl (two_of HT_.out (by kernel_rfl)) (by decide) (by decide) (fun K hK => ?_) (fun K hK => ?_)
                        · skip
                          refine Kd.R_make_step (Kd.int .i64) _ 3 (by rfl) (N := 100) rfl 30 _ _ rfl ji5 rfl rfl Try.underlying30 (.int .i64 0) 8 info3 rfl (by decide) (by omega) 0 (ok := fun _ => True) (okp := fun _ => True) rfl (fun _ hk => hk) trivial (of_decide_eq_true (by first | (with_reducible assumption) | assumption)) (Nat.le_trans (Nat.mul_le_mul_right _ (of_decide_eq_true (by first | (with_reducible assumption) | assumption) : ji5.toNat ≤ 35184372088832)) (by omega)) (Below.refl _ _) (Nat.le_refl _) ?_
                          intro v165 w92 ho93 hb hg_ hnew_
                          clear hg_ hnew_
                          (first | rw [← Ny164.out] at ho93 | (simp only [Int.reduceToNat] at ho93; rw [← Ny164.out] at ho93))
                          have n0_ := Aside0.mk (Kd.R_elder' (by (with_reducible repeat (first | apply Kd.R_alloc | apply Kd.R_drewN | apply Kd.R_drew)); exact HO_10.out) (Kd.R_base ho93) hb)
                          have n1_ := Aside0.mk (Kd.R_lower (Kd.R_new' ho93 (Kd.R_lt (by (with_reducible repeat (first | apply Kd.R_alloc | apply Kd.R_drewN | apply Kd.R_drew)); exact HO_10.out))) (below_size (by repeat (first | (with_reducible first | exact HB.out | apply below_alloc | apply pw_below_drewN | apply below_drew1 | refine below_set ?_ GE152.out) | exact HB.out))))
                          have n2_ := Aside0.mk (blk_below (g := gb152) (o := .cells #[.int .i64 ji5, .int .i64 (wrap64 (2 + (wrap64 (Int.tmod a1 15))))] 39 (0, 0)) (by (with_reducible repeat (first | refine blk_drewN ?_ _ | refine blk_drew ?_ | refine blk_alloc ?_ _)); exact BK152.out) hb)
                          have n3_ := Aside0.mk (below_step (by repeat (first | (with_reducible first | exact HB.out | apply below_alloc | apply pw_below_drewN | apply below_drew1 | refine below_set ?_ GE152.out) | exact HB.out)) hb)
                          clear HO_10
                          clear BK152
                          clear HB
                          have HO_10 := n0_
                          have HO166 := n1_
                          have BK152 := n2_
                          have HB := n3_
                          clear n0_ n1_ n2_ n3_
                          clear hb ho93
                          refine hK.out _ _ ⟨(blk_cell BK152.out 0).trans rfl, (blk_cell BK152.out 1).trans rfl⟩ (fun hHeld => ?_)
                          clear hK K
                          refine norm_ (a' := ?_) ?_ ?_
                          rotate_left
                          · show Act.put _ (some 100) _ = _
                            simp only [Act.put, List.setIfInBounds_toArray, List.set_cons_zero, List.set_cons_succ, i64_w, i32_w]
                            rfl
                          refine one_ (i := 6) (N := some 102) #[true, true, true, true, true, true, true, false, false, false, false, false, false] rfl rfl (one_of HT_.out (by kernel_rfl)) (by decide) (fun K hK => ?_)
                          refine Kd.R_lit_step (Kd.int .i64) _ 3 ?hg (N := 102) ?hd (xs := ([(Int.tmod (wrap64 (a3)) (ji5))] : List Int)) (inner := [.int .i64 (Int.tmod (wrap64 (a3)) (ji5))]) (ok := fun _ => True) (okp := fun _ => True) ?hr ?hp (fun _ hk => hk) trivial (Below.refl _ _) (Nat.le_refl _) (by simp) ?_; (case hd => rfl); (case hg => rfl); (case hr => first | (go_simp; done) | (go_simp; rfl)); (case hp => exact (Reps.one (show Kd.M (Kd.int .i64) _ _ _ (Int.tmod (wrap64 (a3)) (ji5)) [.int .i64 (Int.tmod (wrap64 (a3)) (ji5))] from rfl) (Reps.none _ _)))
                          intro v168 w94 ho95 hb hg_ hnew_
                          clear hg_ hnew_
                          (first | rw [← Ny167.out] at ho95 | (simp only [Int.reduceToNat] at ho95; rw [← Ny167.out] at ho95))
                          have n0_ := Aside0.mk (Kd.R_elder' (by (with_reducible repeat (first | apply Kd.R_alloc | apply Kd.R_drewN | apply Kd.R_drew)); exact HO_10.out) (Kd.R_base ho95) hb)
                          have n1_ := Aside0.mk (Kd.R_elder' (by (with_reducible repeat (first | apply Kd.R_alloc | apply Kd.R_drewN | apply Kd.R_drew)); exact HO166.out) (Kd.R_base ho95) hb)
                          have n2_ := Aside0.mk (Kd.R_lower (Kd.R_new' (Kd.R_new' ho95 (Kd.R_lt (by (with_reducible repeat (first | apply Kd.R_alloc | apply Kd.R_drewN | apply Kd.R_drew)); exact HO_10.out))) (Kd.R_lt (by (with_reducible repeat (first | apply Kd.R_alloc | apply Kd.R_drewN | apply Kd.R_drew)); exact HO166.out))) (below_size (by repeat (first | (with_reducible first | exact HB.out | apply below_alloc | apply pw_below_drewN | apply below_drew1 | refine below_set ?_ GE152.out) | exact HB.out))))
                          have n3_ := Aside0.mk (blk_below (g := gb152) (o := .cells #[.int .i64 ji5, .int .i64 (wrap64 (2 + (wrap64 (Int.tmod a1 15))))] 39 (0, 0)) (by (with_reducible repeat (first | refine blk_drewN ?_ _ | refine blk_drew ?_ | refine blk_alloc ?_ _)); exact BK152.out) hb)
                          have n4_ := Aside0.mk (below_step (by repeat (first | (with_reducible first | exact HB.out | apply below_alloc | apply pw_below_drewN | apply below_drew1 | refine below_set ?_ GE152.out) | exact HB.out)) hb)
                          clear HO_10
                          clear HO166
                          clear BK152
                          clear HB
                          have HO_10 := n0_
                          have HO166 := n1_
                          have HO169 := n2_
                          have BK152 := n3_
                          have HB := n4_
                          clear n0_ n1_ n2_ n3_ n4_
                          clear hb ho95
                          refine hK.out _ _ ⟨(blk_cell BK152.out 0).trans rfl, (blk_cell BK152.out 1).trans rfl⟩ (fun hHeld => ?_)
                          clear hK K
                          refine norm_ (a' := ?_) ?_ ?_
                          rotate_left
                          · show Act.put _ (some 102) _ = _
                            simp only [Act.put, List.setIfInBounds_toArray, List.set_cons_zero, List.set_cons_succ, i64_w, i32_w]
                            rfl
                          exact norm_ (by simp only [putAll, Act.put, List.setIfInBounds_toArray, List.set_cons_zero, List.set_cons_succ]) (hCont (v165, v168) _ ⟨hHeld, (by (with_reducible repeat (first | apply Kd.R_alloc | apply Kd.R_drewN | apply Kd.R_drew)); exact Kd.R_mono HO166.out (fun _ hk => ⟨hk.2, hk.1.2⟩)), (by (with_reducible repeat (first | apply Kd.R_alloc | apply Kd.R_drewN | apply Kd.R_drew)); exact Kd.R_mono HO169.out (fun _ hk => ⟨hk.2, hk.1.2⟩)), (by (with_reducible repeat (first | apply Kd.R_alloc | apply Kd.R_drewN | apply Kd.R_drew)); exact Kd.R_mono HO_10.out (fun _ hk => ⟨hk.1.2, hk.2⟩)), (by (with_reducible repeat (first | refine blk_drewN ?_ _ | refine blk_drew ?_ | refine blk_alloc ?_ _)); exact BK152.out), (by repeat (first | (with_reducible first | exact HB.out | apply below_alloc | apply pw_below_drewN | apply below_drew1 | refine below_set ?_ GE152.out) | exact HB.out))⟩)
                        · skip
                          refine Kd.R_lit_step (Kd.int .i64) _ 3 ?hg (N := 102) ?hd (xs := ([(Int.tmod (wrap64 (a3)) (ji5))] : List Int)) (inner := [.int .i64 (Int.tmod (wrap64 (a3)) (ji5))]) (ok := fun _ => True) (okp := fun _ => True) ?hr ?hp (fun _ hk => hk) trivial (Below.refl _ _) (Nat.le_refl _) (by simp) ?_; (case hd => rfl); (case hg => rfl); (case hr => first | (go_simp; done) | (go_simp; rfl)); (case hp => exact (Reps.one (show Kd.M (Kd.int .i64) _ _ _ (Int.tmod (wrap64 (a3)) (ji5)) [.int .i64 (Int.tmod (wrap64 (a3)) (ji5))] from rfl) (Reps.none _ _)))
                          intro v168 w92 ho93 hb hg_ hnew_
                          clear hg_ hnew_
                          (first | rw [← Ny167.out] at ho93 | (simp only [Int.reduceToNat] at ho93; rw [← Ny167.out] at ho93))
                          have n0_ := Aside0.mk (Kd.R_elder' (by (with_reducible repeat (first | apply Kd.R_alloc | apply Kd.R_drewN | apply Kd.R_drew)); exact HO_10.out) (Kd.R_base ho93) hb)
                          have n1_ := Aside0.mk (Kd.R_lower (Kd.R_new' ho93 (Kd.R_lt (by (with_reducible repeat (first | apply Kd.R_alloc | apply Kd.R_drewN | apply Kd.R_drew)); exact HO_10.out))) (below_size (by repeat (first | (with_reducible first | exact HB.out | apply below_alloc | apply pw_below_drewN | apply below_drew1 | refine below_set ?_ GE152.out) | exact HB.out))))
                          have n2_ := Aside0.mk (blk_below (g := gb152) (o := .cells #[.int .i64 ji5, .int .i64 (wrap64 (2 + (wrap64 (Int.tmod a1 15))))] 39 (0, 0)) (by (with_reducible repeat (first | refine blk_drewN ?_ _ | refine blk_drew ?_ | refine blk_alloc ?_ _)); exact BK152.out) hb)
                          have n3_ := Aside0.mk (below_step (by repeat (first | (with_reducible first | exact HB.out | apply below_alloc | apply pw_below_drewN | apply below_drew1 | refine below_set ?_ GE152.out) | exact HB.out)) hb)
                          clear HO_10
                          clear BK152
                          clear HB
                          have HO_10 := n0_
                          have HO169 := n1_
                          have BK152 := n2_
                          have HB := n3_
                          clear n0_ n1_ n2_ n3_
                          clear hb ho93
                          refine hK.out _ _ ⟨(blk_cell BK152.out 0).trans rfl, (blk_cell BK152.out 1).trans rfl⟩ (fun hHeld => ?_)
                          clear hK K
                          refine norm_ (a' := ?_) ?_ ?_
                          rotate_left
                          · show Act.put _ (some 102) _ = _
                            simp only [Act.put, List.setIfInBounds_toArray, List.set_cons_zero, List.set_cons_succ, i64_w, i32_w]
                            rfl
                          refine one_ (i := 4) (N := some 100) #[true, true, true, true, true, true, true, false, false, false, false, false, false] rfl rfl (one_of HT_.out (by kernel_rfl)) (by decide) (fun K hK => ?_)
                          refine Kd.R_make_step (Kd.int .i64) _ 3 (by rfl) (N := 100) rfl 30 _ _ rfl ji5 rfl rfl Try.underlying30 (.int .i64 0) 8 info3 rfl (by decide) (by omega) 0 (ok := fun _ => True) (okp := fun _ => True) rfl (fun _ hk => hk) trivial (of_decide_eq_true (by first | (with_reducible assumption) | assumption)) (Nat.le_trans (Nat.mul_le_mul_right _ (of_decide_eq_true (by first | (with_reducible assumption) | assumption) : ji5.toNat ≤ 35184372088832)) (by omega)) (Below.refl _ _) (Nat.le_refl _) ?_
                          intro v165 w94 ho95 hb hg_ hnew_
                          clear hg_ hnew_
                          (first | rw [← Ny164.out] at ho95 | (simp only [Int.reduceToNat] at ho95; rw [← Ny164.out] at ho95))
                          have n0_ := Aside0.mk (Kd.R_elder' (by (with_reducible repeat (first | apply Kd.R_alloc | apply Kd.R_drewN | apply Kd.R_drew)); exact HO_10.out) (Kd.R_base ho95) hb)
                          have n1_ := Aside0.mk (Kd.R_elder' (by (with_reducible repeat (first | apply Kd.R_alloc | apply Kd.R_drewN | apply Kd.R_drew)); exact HO169.out) (Kd.R_base ho95) hb)
                          have n2_ := Aside0.mk (Kd.R_lower (Kd.R_new' (Kd.R_new' ho95 (Kd.R_lt (by (with_reducible repeat (first | apply Kd.R_alloc | apply Kd.R_drewN | apply Kd.R_drew)); exact HO_10.out))) (Kd.R_lt (by (with_reducible repeat (first | apply Kd.R_alloc | apply Kd.R_drewN | apply Kd.R_drew)); exact HO169.out))) (below_size (by repeat (first | (with_reducible first | exact HB.out | apply below_alloc | apply pw_below_drewN | apply below_drew1 | refine below_set ?_ GE152.out) | exact HB.out))))
                          have n3_ := Aside0.mk (blk_below (g := gb152) (o := .cells #[.int .i64 ji5, .int .i64 (wrap64 (2 + (wrap64 (Int.tmod a1 15))))] 39 (0, 0)) (by (with_reducible repeat (first | refine blk_drewN ?_ _ | refine blk_drew ?_ | refine blk_alloc ?_ _)); exact BK152.out) hb)
                          have n4_ := Aside0.mk (below_step (by repeat (first | (with_reducible first | exact HB.out | apply below_alloc | apply pw_below_drewN | apply below_drew1 | refine below_set ?_ GE152.out) | exact HB.out)) hb)
                          clear HO_10
                          clear HO169
                          clear BK152
                          clear HB
                          have HO_10 := n0_
                          have HO169 := n1_
                          have HO166 := n2_
                          have BK152 := n3_
                          have HB := n4_
                          clear n0_ n1_ n2_ n3_ n4_
                          clear hb ho95
                          refine hK.out _ _ ⟨(blk_cell BK152.out 0).trans rfl, (blk_cell BK152.out 1).trans rfl⟩ (fun hHeld => ?_)
                          clear hK K
                          refine norm_ (a' := ?_) ?_ ?_
                          rotate_left
                          · show Act.put _ (some 100) _ = _
                            simp only [Act.put, List.setIfInBounds_toArray, List.set_cons_zero, List.set_cons_succ, i64_w, i32_w]
                            rfl
                          exact norm_ (by simp only [putAll, Act.put, List.setIfInBounds_toArray, List.set_cons_zero, List.set_cons_succ]) (hCont (v165, v168) _ ⟨hHeld, (by (with_reducible repeat (first | apply Kd.R_alloc | apply Kd.R_drewN | apply Kd.R_drew)); exact Kd.R_mono HO166.out (fun _ hk => ⟨hk.2, hk.1.2⟩)), (by (with_reducible repeat (first | apply Kd.R_alloc | apply Kd.R_drewN | apply Kd.R_drew)); exact Kd.R_mono HO169.out (fun _ hk => ⟨hk.2, hk.1.2⟩)), (by (with_reducible repeat (first | apply Kd.R_alloc | apply Kd.R_drewN | apply Kd.R_drew)); exact Kd.R_mono HO_10.out (fun _ hk => ⟨hk.2, hk.1.2⟩)), (by (with_reducible repeat (first | refine blk_drewN ?_ _ | refine blk_drew ?_ | refine blk_alloc ?_ _)); exact BK152.out), (by repeat (first | (with_reducible first | exact HB.out | apply below_alloc | apply pw_below_drewN | apply below_drew1 | refine below_set ?_ GE152.out) | exact HB.out))⟩)
                      rintro ⟨v165, v168⟩ w96 ⟨hS_, h0_, h1_, h2_, h3_, h4_⟩
                      have n0_ : Aside0 (Kd.R (Kd.int .i64) 3 w96 w.heap.size (fun k_ => some k_ ≠ (v168 : Value).ownBlock ∧ some k_ ≠ (.slice Ao90 x10_1.length co90 : Value).ownBlock) v165 y164) := ⟨h0_⟩
                      have n1_ : Aside0 (Kd.R (Kd.int .i64) 3 w96 w.heap.size (fun k_ => some k_ ≠ (v165 : Value).ownBlock ∧ some k_ ≠ (.slice Ao90 x10_1.length co90 : Value).ownBlock) v168 y167) := ⟨h1_⟩
                      have n2_ : Aside0 (Kd.R (Kd.int .i64) 3 w96 w.heap.size (fun k_ => some k_ ≠ (v165 : Value).ownBlock ∧ some k_ ≠ (v168 : Value).ownBlock) (.slice Ao90 x10_1.length co90) x10_1) := ⟨h2_⟩
                      have n3_ : Aside0 (w96.heap[gb152]? = some (.cells #[.int .i64 ji5, .int .i64 (wrap64 (2 + (wrap64 (Int.tmod a1 15))))] 39 (0, 0))) := ⟨h3_⟩
                      have n4_ : Aside0 (Below w.heap.size w w96) := ⟨h4_⟩
                      clear HO_10
                      clear BK152
                      clear HB
                      clear h0_ h1_ h2_ h3_ h4_
                      have HO166 := n0_
                      have HO169 := n1_
                      have HO_10 := n2_
                      have BK152 := n3_
                      have HB := n4_
                      clear n0_ n1_ n2_ n3_ n4_
                      have hHeld : w96.cell? ⟨gb152, 0, none⟩ = some (.int .i64 ji5) ∧ w96.cell? ⟨gb152, 1, none⟩ = some (.int .i64 (wrap64 (2 + (wrap64 (Int.tmod a1 15))))) := hS_
                      obtain ⟨Ao97, co97, eo97⟩ := Kd.R_slice HO166.out
                      (first | subst eo97 | (injection eo97 with f1_ f2_ f3_; have f4_ := f1_.symm; have f5_ := f3_.symm; clear f1_ f2_ f3_; subst f4_; subst f5_))
                      obtain ⟨Ao98, co98, eo98⟩ := Kd.R_slice HO169.out
                      (first | subst eo98 | (injection eo98 with f1_ f2_ f3_; have f4_ := f1_.symm; have f5_ := f3_.symm; clear f1_ f2_ f3_; subst f4_; subst f5_))
                      refine norm_ (a' := ?_) ?_ ?_
                      rotate_left
                      · simp only [putAll, Act.put, List.setIfInBounds_toArray, List.set_cons_zero, List.set_cons_succ]
                        rfl
                      refine one_ (i := 7) (N := some 103) #[true, true, true, true, true, true, true, true, false, false, false, false, false] rfl rfl (one_of HT_.out (by kernel_rfl)) (by decide) (fun K hK => ?_)
                      refine goes_ Try.func22 (by kernel_rfl) rfl #[.agg #[.int .i64 ji5, .int .i64 (wrap64 (2 + (wrap64 (Int.tmod a1 15))))], .slice Ao90 x10_1.length co90, .slice Ao97 y164.length co97, .slice Ao98 y167.length co98] (by rfl) rfl rfl (by (try simp only [List.map_toArray, List.map_cons, List.map_nil]); first | done | (simp only [hji5]; rfl) | rfl | (simp only [List.length_drop, List.length_take]; rfl)) ?_
                      with_reducible refine (chooser_Pick.calls k1 ji5 (wrap64 (2 + (wrap64 (Int.tmod a1 15)))) _ _ x10_1 _ _ y164 _ _ y167 t170 t171 _ ?side1 ?side2 ?side3 ?side4 ?side5 ?side6 A46.out).mono ?_
                      (case side1 => repeat (first | exact (Kd.R_reads' HO_10.out).2.2 | (with_reducible refine Kd.C_alloc ?_ _) | (with_reducible refine Kd.C_drewN ?_ _) | (with_reducible refine Kd.C_drew ?_)))
                      (case side2 => exact (Kd.R_reads' HO_10.out).2.1)
                      (case side3 => repeat (first | exact (Kd.R_reads' HO166.out).2.2 | (with_reducible refine Kd.C_alloc ?_ _) | (with_reducible refine Kd.C_drewN ?_ _) | (with_reducible refine Kd.C_drew ?_)))
                      (case side4 => exact (Kd.R_reads' HO166.out).2.1)
                      (case side5 => repeat (first | exact (Kd.R_reads' HO169.out).2.2 | (with_reducible refine Kd.C_alloc ?_ _) | (with_reducible refine Kd.C_drewN ?_ _) | (with_reducible refine Kd.C_drew ?_)))
                      (case side6 => exact (Kd.R_reads' HO169.out).2.1)
                      rintro e w99 ⟨rfl, hb⟩
                      refine ⟨_, rfl, ?_⟩
                      have n0_ := Aside0.mk (Kd.R_below (by (with_reducible repeat (first | apply Kd.R_alloc | apply Kd.R_drewN | apply Kd.R_drew)); exact HO_10.out) hb)
                      have n1_ := Aside0.mk (Kd.R_below (by (with_reducible repeat (first | apply Kd.R_alloc | apply Kd.R_drewN | apply Kd.R_drew)); exact HO166.out) hb)
                      have n2_ := Aside0.mk (Kd.R_below (by (with_reducible repeat (first | apply Kd.R_alloc | apply Kd.R_drewN | apply Kd.R_drew)); exact HO169.out) hb)
                      have n3_ := Aside0.mk (blk_below (g := gb152) (o := .cells #[.int .i64 ji5, .int .i64 (wrap64 (2 + (wrap64 (Int.tmod a1 15))))] 39 (0, 0)) (by (with_reducible repeat (first | refine blk_drewN ?_ _ | refine blk_drew ?_ | refine blk_alloc ?_ _)); exact BK152.out) hb)
                      have n4_ := Aside0.mk (below_step (by repeat (first | (with_reducible first | exact HB.out | apply below_alloc | apply pw_below_drewN | apply below_drew1 | refine below_set ?_ GE152.out) | exact HB.out)) hb)
                      clear HO_10
                      clear HO166
                      clear HO169
                      clear BK152
                      clear HB
                      have HO_10 := n0_
                      have HO166 := n1_
                      have HO169 := n2_
                      have BK152 := n3_
                      have HB := n4_
                      clear n0_ n1_ n2_ n3_ n4_
                      (try clear hb)
                      (try clear hb2)
                      (try clear hk)
                      (try clear hi)
                      refine hK.out _ _ ⟨(blk_cell BK152.out 0).trans rfl, (blk_cell BK152.out 1).trans rfl⟩ (fun hHeld => ?_)
                      clear hK K
                      refine norm_ (a' := ?_) ?_ ?_
                      rotate_left
                      · show Act.put _ (some 103) _ = _
                        simp only [Act.put, List.setIfInBounds_toArray, List.set_cons_zero, List.set_cons_succ, i64_w, i32_w]
                        rfl
                      refine pure_ (i := 8) (N := some 95) (v := ?_) (a' := ?_) #[true, true, true, true, true, true, true, true, true, false, false, false, false] rfl rfl (any_of HT_.out (by kernel_rfl)) (fun _ _ _ h => h) (Or.inl ⟨by rfl, ?_⟩) ?_ ?_
                      rotate_left
                      · intro w'
                        go_simp
                        with_reducible rfl
                      rotate_left
                      · simp only [Act.put, List.setIfInBounds_toArray, List.set_cons_zero, List.set_cons_succ, i64_w, i32_w]
                        rfl
                      refine pure_ (i := 9) (N := some 104) (v := ?_) (a' := ?_) #[true, true, true, true, true, true, true, true, true, true, false, false, false] rfl rfl (any_of HT_.out (by kernel_rfl)) (fun _ _ _ h => h) (Or.inl ⟨by rfl, ?_⟩) ?_ ?_
                      rotate_left
                      · intro w'
                        go_simp
                        with_reducible rfl
                      rotate_left
                      · simp only [Act.put, List.setIfInBounds_toArray, List.set_cons_zero, List.set_cons_succ, i64_w, i32_w]
                        rfl
                      refine pure_ (i := 10) (N := some 105) (v := ?_) (a' := ?_) #[true, true, true, true, true, true, true, true, true, true, true, false, false] rfl rfl (any_of HT_.out (by kernel_rfl)) (fun _ _ _ h => h) (Or.inl ⟨by rfl, ?_⟩) ?_ ?_
                      rotate_left
                      · intro w'
                        go_simp
                        with_reducible rfl
                      rotate_left
                      · simp only [Act.put, List.setIfInBounds_toArray, List.set_cons_zero, List.set_cons_succ, i64_w, i32_w]
                        rfl
                      refine pure_ (i := 11) (N := some 16) (v := ?_) (a' := ?_) #[true, true, true, true, true, true, true, true, true, true, true, true, false] rfl rfl (any_of HT_.out (by kernel_rfl)) (fun _ _ _ h => h) (Or.inl ⟨by rfl, ?_⟩) ?_ ?_
                      rotate_left
                      · intro w'
                        go_simp
                        with_reducible rfl
                      rotate_left
                      · simp only [Act.put, List.setIfInBounds_toArray, List.set_cons_zero, List.set_cons_succ, i64_w, i32_w]
                        rfl
                      refine pure_ (i := 12) (N := some 17) (v := ?_) (a' := ?_) #[true, true, true, true, true, true, true, true, true, true, true, true, true] rfl rfl (any_of HT_.out (by kernel_rfl)) (fun _ _ _ h => h) (Or.inl ⟨by rfl, ?_⟩) ?_ ?_
                      rotate_left
                      · intro w'
                        go_simp
                        with_reducible rfl
                      rotate_left
                      · simp only [Act.put, List.setIfInBounds_toArray, List.set_cons_zero, List.set_cons_succ, i64_w, i32_w]
                        rfl
                      refine done_ (done_of HT_.out (by kernel_rfl)) ?_
                      try go_wp2_with (first | ((with_reducible refine gate_callee (f := 24) rfl ?_); refine goesL_ (some 117) rfl rfl Try.func24 (by kernel_rfl) rfl #[] rfl (by (try simp only [List.map_toArray, List.map_cons, List.map_nil]); first | done | rfl | (simp only [List.length_drop, List.length_take]; rfl)) ?_; (with_reducible refine (stopcocklaw12_awake.calls k1  true _ A87.out).mono ?_); rintro e w100 ⟨rfl, hb⟩; refine ⟨_, rfl, ?_⟩; have n0_ := Aside0.mk (Kd.R_below (by (with_reducible repeat (first | apply Kd.R_alloc | apply Kd.R_drewN | apply Kd.R_drew)); exact HO_10.out) hb); have n1_ := Aside0.mk (Kd.R_below (by (with_reducible repeat (first | apply Kd.R_alloc | apply Kd.R_drewN | apply Kd.R_drew)); exact HO166.out) hb); have n2_ := Aside0.mk (Kd.R_below (by (with_reducible repeat (first | apply Kd.R_alloc | apply Kd.R_drewN | apply Kd.R_drew)); exact HO169.out) hb); have n3_ := Aside0.mk (blk_below (g := gb152) (o := .cells #[.int .i64 ji5, .int .i64 (wrap64 (2 + (wrap64 (Int.tmod a1 15))))] 39 (0, 0)) (by (with_reducible repeat (first | refine blk_drewN ?_ _ | refine blk_drew ?_ | refine blk_alloc ?_ _)); exact BK152.out) hb); have n4_ := Aside0.mk (below_step (by repeat (first | (with_reducible first | exact HB.out | apply below_alloc | apply pw_below_drewN | apply below_drew1 | refine below_set ?_ GE152.out) | exact HB.out)) hb); clear HO_10; clear HO166; clear HO169; clear BK152; clear HB; have HO_10 := n0_; have HO166 := n1_; have HO169 := n2_; have BK152 := n3_; have HB := n4_; clear n0_ n1_ n2_ n3_ n4_; (try clear hb); (try clear hb2); (try clear hk); (try clear hi)))
                      go_ret
                      exact ⟨by first | rfl | (simp [errW_none, errW_some] <;> rfl) | (simp only [← hji5]; first | rfl | (simp [errW_none, errW_some] <;> rfl)) | (simp [*, errW_none, errW_some] <;> rfl), by repeat (first | (with_reducible first | exact HB.out | apply below_alloc | apply pw_below_drewN | apply below_drew1 | refine below_set ?_ GE152.out) | exact HB.out)⟩
                    · replace c88 := Bool.eq_false_iff.mpr c88
                      subst c88
                      have H1 : (some false) = some r := by rw [if_neg (show ¬ (false = true) by decide)] at H; exact H
                      clear H
                      have H := H1
                      clear H1
                      obtain rfl := Option.some.inj H
                      have hcz101_0 : wr.cell? ⟨gb152, 0, none⟩ = some (.int .i64 ji5) := (blk_cell BK152.out 0).trans rfl
                      have hcz101_1 : wr.cell? ⟨gb152, 1, none⟩ = some (.int .i64 (wrap64 (2 + (wrap64 (Int.tmod a1 15))))) := (blk_cell BK152.out 1).trans rfl
                      have hfz101_0 := blk_frozen BK152.out 0
                      have hfz101_1 := blk_frozen BK152.out 1
                      obtain ⟨Ao102, co102, eo102⟩ := Kd.R_slice HO_10.out
                      subst eo102
                      try go_wp2
                      have n0_ := Aside0.mk (Kd.R_drew HO_10.out)
                      have n1_ := Aside0.mk (blk_drew BK152.out)
                      have n2_ := Aside0.mk (below_drew1 HB.out)
                      clear HO_10
                      clear BK152
                      clear HB
                      have HO_10 := n0_
                      have BK152 := n1_
                      have HB := n2_
                      clear n0_ n1_ n2_
                      refine start_ (n := 13) (S := fun w' => w'.cell? ⟨gb152, 0, none⟩ = some (.int .i64 ji5) ∧ w'.cell? ⟨gb152, 1, none⟩ = some (.int .i64 (wrap64 (2 + (wrap64 (Int.tmod a1 15)))))) (ds := []) #[false, false, false, false, false, false, false, false, false, false, false, false, false] (by kernel_rfl) rfl rfl ⟨(blk_cell BK152.out 0).trans rfl, (blk_cell BK152.out 1).trans rfl⟩ (fun hHeld => ?_); refine with_tabW stopcocklaw12_ChooserSpread.tab16 stopcocklaw12_ChooserSpread.bits16 (fun HT_ HW_ => ?_)
                      generalize wr.drew = w103 at HO_10 BK152 HB hHeld ⊢
                      refine pure_ (i := 1) (N := some 97) (v := ?_) (a' := ?_) #[false, true, false, false, false, false, false, false, false, false, false, false, false] rfl rfl (any_of HT_.out (by kernel_rfl)) (fun _ _ _ h => h) (Or.inl ⟨by rfl, ?_⟩) ?_ ?_
                      rotate_left
                      · intro w'
                        go_simp
                        with_reducible rfl
                      rotate_left
                      · simp only [Act.put, List.setIfInBounds_toArray, List.set_cons_zero, List.set_cons_succ, i64_w, i32_w]
                        rfl
                      refine pure_ (i := 2) (N := some 98) (v := ?_) (a' := ?_) #[false, true, true, false, false, false, false, false, false, false, false, false, false] rfl rfl (any_of HT_.out (by kernel_rfl)) (fun _ _ _ h => h) (Or.inl ⟨by rfl, ?_⟩) ?_ ?_
                      rotate_left
                      · intro w'
                        go_simp
                        with_reducible rfl
                      rotate_left
                      · simp only [Act.put, List.setIfInBounds_toArray, List.set_cons_zero, List.set_cons_succ, i64_w, i32_w]
                        rfl
                      refine pure_ (i := 5) (N := some 101) (v := ?_) (a' := ?_) #[false, true, true, false, false, true, false, false, false, false, false, false, false] rfl rfl (any_of HT_.out (by kernel_rfl)) (fun _ _ _ h => h) (Or.inl ⟨by rfl, ?_⟩) ?_ ?_
                      rotate_left
                      · intro w'
                        go_simp
                        with_reducible rfl
                      rotate_left
                      · simp only [Act.put, List.setIfInBounds_toArray, List.set_cons_zero, List.set_cons_succ, i64_w, i32_w]
                        rfl
                      refine take_ (i := 0) (N := some 96) (v := ?_) (a' := ?_) #[true, true, true, false, false, true, false, false, false, false, false, false, false] rfl rfl (take_ofW HT_.out HW_.out (by kernel_rfl)) (fun _ _ _ h => h) (Or.inl ⟨by rfl, ?_⟩) hHeld ?_ ?_
                      rotate_left
                      · rintro w' ⟨s0, s1⟩
                        go_simp
                        with_reducible rfl
                      rotate_left
                      · simp only [Act.put, List.setIfInBounds_toArray, List.set_cons_zero, List.set_cons_succ, i64_w, i32_w]
                        rfl
                      refine take_ (i := 3) (N := some 99) (v := ?_) (a' := ?_) #[true, true, true, true, false, true, false, false, false, false, false, false, false] rfl rfl (take_ofW HT_.out HW_.out (by kernel_rfl)) (fun _ _ _ h => h) (Or.inl ⟨by rfl, ?_⟩) hHeld ?_ ?_
                      rotate_left
                      · rintro w' ⟨s0, s1⟩
                        go_simp
                        with_reducible rfl
                      rotate_left
                      · simp only [Act.put, List.setIfInBounds_toArray, List.set_cons_zero, List.set_cons_succ, i64_w, i32_w]
                        rfl
                      refine join_ (σ := Value × Value) 6 #[true, true, true, true, true, true, true, false, false, false, false, false, false] (fun s_ => [(100, s_.1), (102, s_.2)]) (fun s_ w' => (w'.cell? ⟨gb152, 0, none⟩ = some (.int .i64 ji5) ∧ w'.cell? ⟨gb152, 1, none⟩ = some (.int .i64 (wrap64 (2 + (wrap64 (Int.tmod a1 15)))))) ∧ (Kd.R (Kd.int .i64) 3 w' w.heap.size (fun k_ => some k_ ≠ (s_.2 : Value).ownBlock ∧ some k_ ≠ (.slice Ao102 x10_1.length co102 : Value).ownBlock) s_.1 y164) ∧ (Kd.R (Kd.int .i64) 3 w' w.heap.size (fun k_ => some k_ ≠ (s_.1 : Value).ownBlock ∧ some k_ ≠ (.slice Ao102 x10_1.length co102 : Value).ownBlock) s_.2 y167) ∧ (Kd.R (Kd.int .i64) 3 w' w.heap.size (fun k_ => some k_ ≠ (s_.1 : Value).ownBlock ∧ some k_ ≠ (s_.2 : Value).ownBlock) (.slice Ao102 x10_1.length co102) x10_1) ∧ (w'.heap[gb152]? = some (.cells #[.int .i64 ji5, .int .i64 (wrap64 (2 + (wrap64 (Int.tmod a1 15))))] 39 (0, 0))) ∧ (Below w.heap.size w w')) ?_ ?_
                      rotate_left
                      · intro hCont
                        refine two_ (i := 4) (j := 6) (Ni := some 100) (Nj := some 102) #[true, true, true, true, true, true, false, false, false, false, false, false, false] #[true, true, true, true, false, true, true, false, false, false, false, false, false] rfl rfl rfl rfl (two_of HT_.out (by kernel_rfl)) (by decide) (by decide) (fun K hK => ?_) (fun K hK => ?_)
                        · skip
                          refine Kd.R_make_step (Kd.int .i64) _ 3 (by rfl) (N := 100) rfl 30 _ _ rfl ji5 rfl rfl Try.underlying30 (.int .i64 0) 8 info3 rfl (by decide) (by omega) 0 (ok := fun _ => True) (okp := fun _ => True) rfl (fun _ hk => hk) trivial (of_decide_eq_true (by first | (with_reducible assumption) | assumption)) (Nat.le_trans (Nat.mul_le_mul_right _ (of_decide_eq_true (by first | (with_reducible assumption) | assumption) : ji5.toNat ≤ 35184372088832)) (by omega)) (Below.refl _ _) (Nat.le_refl _) ?_
                          intro v165 w104 ho105 hb hg_ hnew_
                          clear hg_ hnew_
                          (first | rw [← Ny164.out] at ho105 | (simp only [Int.reduceToNat] at ho105; rw [← Ny164.out] at ho105))
                          have n0_ := Aside0.mk (Kd.R_elder' (by (with_reducible repeat (first | apply Kd.R_alloc | apply Kd.R_drewN | apply Kd.R_drew)); exact HO_10.out) (Kd.R_base ho105) hb)
                          have n1_ := Aside0.mk (Kd.R_lower (Kd.R_new' ho105 (Kd.R_lt (by (with_reducible repeat (first | apply Kd.R_alloc | apply Kd.R_drewN | apply Kd.R_drew)); exact HO_10.out))) (below_size (by repeat (first | (with_reducible first | exact HB.out | apply below_alloc | apply pw_below_drewN | apply below_drew1 | refine below_set ?_ GE152.out) | exact HB.out))))
                          have n2_ := Aside0.mk (blk_below (g := gb152) (o := .cells #[.int .i64 ji5, .int .i64 (wrap64 (2 + (wrap64 (Int.tmod a1 15))))] 39 (0, 0)) (by (with_reducible repeat (first | refine blk_drewN ?_ _ | refine blk_drew ?_ | refine blk_alloc ?_ _)); exact BK152.out) hb)
                          have n3_ := Aside0.mk (below_step (by repeat (first | (with_reducible first | exact HB.out | apply below_alloc | apply pw_below_drewN | apply below_drew1 | refine below_set ?_ GE152.out) | exact HB.out)) hb)
                          clear HO_10
                          clear BK152
                          clear HB
                          have HO_10 := n0_
                          have HO166 := n1_
                          have BK152 := n2_
                          have HB := n3_
                          clear n0_ n1_ n2_ n3_
                          clear hb ho105
                          refine hK.out _ _ ⟨(blk_cell BK152.out 0).trans rfl, (blk_cell BK152.out 1).trans rfl⟩ (fun hHeld => ?_)
                          clear hK K
                          refine norm_ (a' := ?_) ?_ ?_
                          rotate_left
                          · show Act.put _ (some 100) _ = _
                            simp only [Act.put, List.setIfInBounds_toArray, List.set_cons_zero, List.set_cons_succ, i64_w, i32_w]
                            rfl
                          refine one_ (i := 6) (N := some 102) #[true, true, true, true, true, true, true, false, false, false, false, false, false] rfl rfl (one_of HT_.out (by kernel_rfl)) (by decide) (fun K hK => ?_)
                          refine Kd.R_lit_step (Kd.int .i64) _ 3 ?hg (N := 102) ?hd (xs := ([(Int.tmod (wrap64 (a3)) (ji5))] : List Int)) (inner := [.int .i64 (Int.tmod (wrap64 (a3)) (ji5))]) (ok := fun _ => True) (okp := fun _ => True) ?hr ?hp (fun _ hk => hk) trivial (Below.refl _ _) (Nat.le_refl _) (by simp) ?_; (case hd => rfl); (case hg => rfl); (case hr => first | (go_simp; done) | (go_simp; rfl)); (case hp => exact (Reps.one (show Kd.M (Kd.int .i64) _ _ _ (Int.tmod (wrap64 (a3)) (ji5)) [.int .i64 (Int.tmod (wrap64 (a3)) (ji5))] from rfl) (Reps.none _ _)))
                          intro v168 w106 ho107 hb hg_ hnew_
                          clear hg_ hnew_
                          (first | rw [← Ny167.out] at ho107 | (simp only [Int.reduceToNat] at ho107; rw [← Ny167.out] at ho107))
                          have n0_ := Aside0.mk (Kd.R_elder' (by (with_reducible repeat (first | apply Kd.R_alloc | apply Kd.R_drewN | apply Kd.R_drew)); exact HO_10.out) (Kd.R_base ho107) hb)
                          have n1_ := Aside0.mk (Kd.R_elder' (by (with_reducible repeat (first | apply Kd.R_alloc | apply Kd.R_drewN | apply Kd.R_drew)); exact HO166.out) (Kd.R_base ho107) hb)
                          have n2_ := Aside0.mk (Kd.R_lower (Kd.R_new' (Kd.R_new' ho107 (Kd.R_lt (by (with_reducible repeat (first | apply Kd.R_alloc | apply Kd.R_drewN | apply Kd.R_drew)); exact HO_10.out))) (Kd.R_lt (by (with_reducible repeat (first | apply Kd.R_alloc | apply Kd.R_drewN | apply Kd.R_drew)); exact HO166.out))) (below_size (by repeat (first | (with_reducible first | exact HB.out | apply below_alloc | apply pw_below_drewN | apply below_drew1 | refine below_set ?_ GE152.out) | exact HB.out))))
                          have n3_ := Aside0.mk (blk_below (g := gb152) (o := .cells #[.int .i64 ji5, .int .i64 (wrap64 (2 + (wrap64 (Int.tmod a1 15))))] 39 (0, 0)) (by (with_reducible repeat (first | refine blk_drewN ?_ _ | refine blk_drew ?_ | refine blk_alloc ?_ _)); exact BK152.out) hb)
                          have n4_ := Aside0.mk (below_step (by repeat (first | (with_reducible first | exact HB.out | apply below_alloc | apply pw_below_drewN | apply below_drew1 | refine below_set ?_ GE152.out) | exact HB.out)) hb)
                          clear HO_10
                          clear HO166
                          clear BK152
                          clear HB
                          have HO_10 := n0_
                          have HO166 := n1_
                          have HO169 := n2_
                          have BK152 := n3_
                          have HB := n4_
                          clear n0_ n1_ n2_ n3_ n4_
                          clear hb ho107
                          refine hK.out _ _ ⟨(blk_cell BK152.out 0).trans rfl, (blk_cell BK152.out 1).trans rfl⟩ (fun hHeld => ?_)
                          clear hK K
                          refine norm_ (a' := ?_) ?_ ?_
                          rotate_left
                          · show Act.put _ (some 102) _ = _
                            simp only [Act.put, List.setIfInBounds_toArray, List.set_cons_zero, List.set_cons_succ, i64_w, i32_w]
                            rfl
                          exact norm_ (by simp only [putAll, Act.put, List.setIfInBounds_toArray, List.set_cons_zero, List.set_cons_succ]) (hCont (v165, v168) _ ⟨hHeld, (by (with_reducible repeat (first | apply Kd.R_alloc | apply Kd.R_drewN | apply Kd.R_drew)); exact Kd.R_mono HO166.out (fun _ hk => ⟨hk.2, hk.1.2⟩)), (by (with_reducible repeat (first | apply Kd.R_alloc | apply Kd.R_drewN | apply Kd.R_drew)); exact Kd.R_mono HO169.out (fun _ hk => ⟨hk.2, hk.1.2⟩)), (by (with_reducible repeat (first | apply Kd.R_alloc | apply Kd.R_drewN | apply Kd.R_drew)); exact Kd.R_mono HO_10.out (fun _ hk => ⟨hk.1.2, hk.2⟩)), (by (with_reducible repeat (first | refine blk_drewN ?_ _ | refine blk_drew ?_ | refine blk_alloc ?_ _)); exact BK152.out), (by repeat (first | (with_reducible first | exact HB.out | apply below_alloc | apply pw_below_drewN | apply below_drew1 | refine below_set ?_ GE152.out) | exact HB.out))⟩)
                        · skip
                          refine Kd.R_lit_step (Kd.int .i64) _ 3 ?hg (N := 102) ?hd (xs := ([(Int.tmod (wrap64 (a3)) (ji5))] : List Int)) (inner := [.int .i64 (Int.tmod (wrap64 (a3)) (ji5))]) (ok := fun _ => True) (okp := fun _ => True) ?hr ?hp (fun _ hk => hk) trivial (Below.refl _ _) (Nat.le_refl _) (by simp) ?_; (case hd => rfl); (case hg => rfl); (case hr => first | (go_simp; done) | (go_simp; rfl)); (case hp => exact (Reps.one (show Kd.M (Kd.int .i64) _ _ _ (Int.tmod (wrap64 (a3)) (ji5)) [.int .i64 (Int.tmod (wrap64 (a3)) (ji5))] from rfl) (Reps.none _ _)))
                          intro v168 w104 ho105 hb hg_ hnew_
                          clear hg_ hnew_
                          (first | rw [← Ny167.out] at ho105 | (simp only [Int.reduceToNat] at ho105; rw [← Ny167.out] at ho105))
                          have n0_ := Aside0.mk (Kd.R_elder' (by (with_reducible repeat (first | apply Kd.R_alloc | apply Kd.R_drewN | apply Kd.R_drew)); exact HO_10.out) (Kd.R_base ho105) hb)
                          have n1_ := Aside0.mk (Kd.R_lower (Kd.R_new' ho105 (Kd.R_lt (by (with_reducible repeat (first | apply Kd.R_alloc | apply Kd.R_drewN | apply Kd.R_drew)); exact HO_10.out))) (below_size (by repeat (first | (with_reducible first | exact HB.out | apply below_alloc | apply pw_below_drewN | apply below_drew1 | refine below_set ?_ GE152.out) | exact HB.out))))
                          have n2_ := Aside0.mk (blk_below (g := gb152) (o := .cells #[.int .i64 ji5, .int .i64 (wrap64 (2 + (wrap64 (Int.tmod a1 15))))] 39 (0, 0)) (by (with_reducible repeat (first | refine blk_drewN ?_ _ | refine blk_drew ?_ | refine blk_alloc ?_ _)); exact BK152.out) hb)
                          have n3_ := Aside0.mk (below_step (by repeat (first | (with_reducible first | exact HB.out | apply below_alloc | apply pw_below_drewN | apply below_drew1 | refine below_set ?_ GE152.out) | exact HB.out)) hb)
                          clear HO_10
                          clear BK152
                          clear HB
                          have HO_10 := n0_
                          have HO169 := n1_
                          have BK152 := n2_
                          have HB := n3_
                          clear n0_ n1_ n2_ n3_
                          clear hb ho105
                          refine hK.out _ _ ⟨(blk_cell BK152.out 0).trans rfl, (blk_cell BK152.out 1).trans rfl⟩ (fun hHeld => ?_)
                          clear hK K
                          refine norm_ (a' := ?_) ?_ ?_
                          rotate_left
                          · show Act.put _ (some 102) _ = _
                            simp only [Act.put, List.setIfInBounds_toArray, List.set_cons_zero, List.set_cons_succ, i64_w, i32_w]
                            rfl
                          refine one_ (i := 4) (N := some 100) #[true, true, true, true, true, true, true, false, false, false, false, false, false] rfl rfl (one_of HT_.out (by kernel_rfl)) (by decide) (fun K hK => ?_)
                          refine Kd.R_make_step (Kd.int .i64) _ 3 (by rfl) (N := 100) rfl 30 _ _ rfl ji5 rfl rfl Try.underlying30 (.int .i64 0) 8 info3 rfl (by decide) (by omega) 0 (ok := fun _ => True) (okp := fun _ => True) rfl (fun _ hk => hk) trivial (of_decide_eq_true (by first | (with_reducible assumption) | assumption)) (Nat.le_trans (Nat.mul_le_mul_right _ (of_decide_eq_true (by first | (with_reducible assumption) | assumption) : ji5.toNat ≤ 35184372088832)) (by omega)) (Below.refl _ _) (Nat.le_refl _) ?_
                          intro v165 w106 ho107 hb hg_ hnew_
                          clear hg_ hnew_
                          (first | rw [← Ny164.out] at ho107 | (simp only [Int.reduceToNat] at ho107; rw [← Ny164.out] at ho107))
                          have n0_ := Aside0.mk (Kd.R_elder' (by (with_reducible repeat (first | apply Kd.R_alloc | apply Kd.R_drewN | apply Kd.R_drew)); exact HO_10.out) (Kd.R_base ho107) hb)
                          have n1_ := Aside0.mk (Kd.R_elder' (by (with_reducible repeat (first | apply Kd.R_alloc | apply Kd.R_drewN | apply Kd.R_drew)); exact HO169.out) (Kd.R_base ho107) hb)
                          have n2_ := Aside0.mk (Kd.R_lower (Kd.R_new' (Kd.R_new' ho107 (Kd.R_lt (by (with_reducible repeat (first | apply Kd.R_alloc | apply Kd.R_drewN | apply Kd.R_drew)); exact HO_10.out))) (Kd.R_lt (by (with_reducible repeat (first | apply Kd.R_alloc | apply Kd.R_drewN | apply Kd.R_drew)); exact HO169.out))) (below_size (by repeat (first | (with_reducible first | exact HB.out | apply below_alloc | apply pw_below_drewN | apply below_drew1 | refine below_set ?_ GE152.out) | exact HB.out))))
                          have n3_ := Aside0.mk (blk_below (g := gb152) (o := .cells #[.int .i64 ji5, .int .i64 (wrap64 (2 + (wrap64 (Int.tmod a1 15))))] 39 (0, 0)) (by (with_reducible repeat (first | refine blk_drewN ?_ _ | refine blk_drew ?_ | refine blk_alloc ?_ _)); exact BK152.out) hb)
                          have n4_ := Aside0.mk (below_step (by repeat (first | (with_reducible first | exact HB.out | apply below_alloc | apply pw_below_drewN | apply below_drew1 | refine below_set ?_ GE152.out) | exact HB.out)) hb)
                          clear HO_10
                          clear HO169
                          clear BK152
                          clear HB
                          have HO_10 := n0_
                          have HO169 := n1_
                          have HO166 := n2_
                          have BK152 := n3_
                          have HB := n4_
                          clear n0_ n1_ n2_ n3_ n4_
                          clear hb ho107
                          refine hK.out _ _ ⟨(blk_cell BK152.out 0).trans rfl, (blk_cell BK152.out 1).trans rfl⟩ (fun hHeld => ?_)
                          clear hK K
                          refine norm_ (a' := ?_) ?_ ?_
                          rotate_left
                          · show Act.put _ (some 100) _ = _
                            simp only [Act.put, List.setIfInBounds_toArray, List.set_cons_zero, List.set_cons_succ, i64_w, i32_w]
                            rfl
                          exact norm_ (by simp only [putAll, Act.put, List.setIfInBounds_toArray, List.set_cons_zero, List.set_cons_succ]) (hCont (v165, v168) _ ⟨hHeld, (by (with_reducible repeat (first | apply Kd.R_alloc | apply Kd.R_drewN | apply Kd.R_drew)); exact Kd.R_mono HO166.out (fun _ hk => ⟨hk.2, hk.1.2⟩)), (by (with_reducible repeat (first | apply Kd.R_alloc | apply Kd.R_drewN | apply Kd.R_drew)); exact Kd.R_mono HO169.out (fun _ hk => ⟨hk.2, hk.1.2⟩)), (by (with_reducible repeat (first | apply Kd.R_alloc | apply Kd.R_drewN | apply Kd.R_drew)); exact Kd.R_mono HO_10.out (fun _ hk => ⟨hk.2, hk.1.2⟩)), (by (with_reducible repeat (first | refine blk_drewN ?_ _ | refine blk_drew ?_ | refine blk_alloc ?_ _)); exact BK152.out), (by repeat (first | (with_reducible first | exact HB.out | apply below_alloc | apply pw_below_drewN | apply below_drew1 | refine below_set ?_ GE152.out) | exact HB.out))⟩)
                      rintro ⟨v165, v168⟩ w108 ⟨hS_, h0_, h1_, h2_, h3_, h4_⟩
                      have n0_ : Aside0 (Kd.R (Kd.int .i64) 3 w108 w.heap.size (fun k_ => some k_ ≠ (v168 : Value).ownBlock ∧ some k_ ≠ (.slice Ao102 x10_1.length co102 : Value).ownBlock) v165 y164) := ⟨h0_⟩
                      have n1_ : Aside0 (Kd.R (Kd.int .i64) 3 w108 w.heap.size (fun k_ => some k_ ≠ (v165 : Value).ownBlock ∧ some k_ ≠ (.slice Ao102 x10_1.length co102 : Value).ownBlock) v168 y167) := ⟨h1_⟩
                      have n2_ : Aside0 (Kd.R (Kd.int .i64) 3 w108 w.heap.size (fun k_ => some k_ ≠ (v165 : Value).ownBlock ∧ some k_ ≠ (v168 : Value).ownBlock) (.slice Ao102 x10_1.length co102) x10_1) := ⟨h2_⟩
                      have n3_ : Aside0 (w108.heap[gb152]? = some (.cells #[.int .i64 ji5, .int .i64 (wrap64 (2 + (wrap64 (Int.tmod a1 15))))] 39 (0, 0))) := ⟨h3_⟩
                      have n4_ : Aside0 (Below w.heap.size w w108) := ⟨h4_⟩
                      clear HO_10
                      clear BK152
                      clear HB
                      clear h0_ h1_ h2_ h3_ h4_
                      have HO166 := n0_
                      have HO169 := n1_
                      have HO_10 := n2_
                      have BK152 := n3_
                      have HB := n4_
                      clear n0_ n1_ n2_ n3_ n4_
                      have hHeld : w108.cell? ⟨gb152, 0, none⟩ = some (.int .i64 ji5) ∧ w108.cell? ⟨gb152, 1, none⟩ = some (.int .i64 (wrap64 (2 + (wrap64 (Int.tmod a1 15))))) := hS_
                      obtain ⟨Ao109, co109, eo109⟩ := Kd.R_slice HO166.out
                      (first | subst eo109 | (injection eo109 with f1_ f2_ f3_; have f4_ := f1_.symm; have f5_ := f3_.symm; clear f1_ f2_ f3_; subst f4_; subst f5_))
                      obtain ⟨Ao110, co110, eo110⟩ := Kd.R_slice HO169.out
                      (first | subst eo110 | (injection eo110 with f1_ f2_ f3_; have f4_ := f1_.symm; have f5_ := f3_.symm; clear f1_ f2_ f3_; subst f4_; subst f5_))
                      refine norm_ (a' := ?_) ?_ ?_
                      rotate_left
                      · simp only [putAll, Act.put, List.setIfInBounds_toArray, List.set_cons_zero, List.set_cons_succ]
                        rfl
                      refine one_ (i := 7) (N := some 103) #[true, true, true, true, true, true, true, true, false, false, false, false, false] rfl rfl (one_of HT_.out (by kernel_rfl)) (by decide) (fun K hK => ?_)
                      refine goes_ Try.func22 (by kernel_rfl) rfl #[.agg #[.int .i64 ji5, .int .i64 (wrap64 (2 + (wrap64 (Int.tmod a1 15))))], .slice Ao102 x10_1.length co102, .slice Ao109 y164.length co109, .slice Ao110 y167.length co110] (by rfl) rfl rfl (by (try simp only [List.map_toArray, List.map_cons, List.map_nil]); first | done | (simp only [hji5]; rfl) | rfl | (simp only [List.length_drop, List.length_take]; rfl)) ?_
                      with_reducible refine (chooser_Pick.calls k1 ji5 (wrap64 (2 + (wrap64 (Int.tmod a1 15)))) _ _ x10_1 _ _ y164 _ _ y167 t170 t171 _ ?side1 ?side2 ?side3 ?side4 ?side5 ?side6 A46.out).mono ?_
                      (case side1 => repeat (first | exact (Kd.R_reads' HO_10.out).2.2 | (with_reducible refine Kd.C_alloc ?_ _) | (with_reducible refine Kd.C_drewN ?_ _) | (with_reducible refine Kd.C_drew ?_)))
                      (case side2 => exact (Kd.R_reads' HO_10.out).2.1)
                      (case side3 => repeat (first | exact (Kd.R_reads' HO166.out).2.2 | (with_reducible refine Kd.C_alloc ?_ _) | (with_reducible refine Kd.C_drewN ?_ _) | (with_reducible refine Kd.C_drew ?_)))
                      (case side4 => exact (Kd.R_reads' HO166.out).2.1)
                      (case side5 => repeat (first | exact (Kd.R_reads' HO169.out).2.2 | (with_reducible refine Kd.C_alloc ?_ _) | (with_reducible refine Kd.C_drewN ?_ _) | (with_reducible refine Kd.C_drew ?_)))
                      (case side6 => exact (Kd.R_reads' HO169.out).2.1)
                      rintro e w111 ⟨rfl, hb⟩
                      refine ⟨_, rfl, ?_⟩
                      have n0_ := Aside0.mk (Kd.R_below (by (with_reducible repeat (first | apply Kd.R_alloc | apply Kd.R_drewN | apply Kd.R_drew)); exact HO_10.out) hb)
                      have n1_ := Aside0.mk (Kd.R_below (by (with_reducible repeat (first | apply Kd.R_alloc | apply Kd.R_drewN | apply Kd.R_drew)); exact HO166.out) hb)
                      have n2_ := Aside0.mk (Kd.R_below (by (with_reducible repeat (first | apply Kd.R_alloc | apply Kd.R_drewN | apply Kd.R_drew)); exact HO169.out) hb)
                      have n3_ := Aside0.mk (blk_below (g := gb152) (o := .cells #[.int .i64 ji5, .int .i64 (wrap64 (2 + (wrap64 (Int.tmod a1 15))))] 39 (0, 0)) (by (with_reducible repeat (first | refine blk_drewN ?_ _ | refine blk_drew ?_ | refine blk_alloc ?_ _)); exact BK152.out) hb)
                      have n4_ := Aside0.mk (below_step (by repeat (first | (with_reducible first | exact HB.out | apply below_alloc | apply pw_below_drewN | apply below_drew1 | refine below_set ?_ GE152.out) | exact HB.out)) hb)
                      clear HO_10
                      clear HO166
                      clear HO169
                      clear BK152
                      clear HB
                      have HO_10 := n0_
                      have HO166 := n1_
                      have HO169 := n2_
                      have BK152 := n3_
                      have HB := n4_
                      clear n0_ n1_ n2_ n3_ n4_
                      (try clear hb)
                      (try clear hb2)
                      (try clear hk)
                      (try clear hi)
                      refine hK.out _ _ ⟨(blk_cell BK152.out 0).trans rfl, (blk_cell BK152.out 1).trans rfl⟩ (fun hHeld => ?_)
                      clear hK K
                      refine norm_ (a' := ?_) ?_ ?_
                      rotate_left
                      · show Act.put _ (some 103) _ = _
                        simp only [Act.put, List.setIfInBounds_toArray, List.set_cons_zero, List.set_cons_succ, i64_w, i32_w]
                        rfl
                      refine pure_ (i := 8) (N := some 95) (v := ?_) (a' := ?_) #[true, true, true, true, true, true, true, true, true, false, false, false, false] rfl rfl (any_of HT_.out (by kernel_rfl)) (fun _ _ _ h => h) (Or.inl ⟨by rfl, ?_⟩) ?_ ?_
                      rotate_left
                      · intro w'
                        go_simp
                        with_reducible rfl
                      rotate_left
                      · simp only [Act.put, List.setIfInBounds_toArray, List.set_cons_zero, List.set_cons_succ, i64_w, i32_w]
                        rfl
                      refine pure_ (i := 9) (N := some 104) (v := ?_) (a' := ?_) #[true, true, true, true, true, true, true, true, true, true, false, false, false] rfl rfl (any_of HT_.out (by kernel_rfl)) (fun _ _ _ h => h) (Or.inl ⟨by rfl, ?_⟩) ?_ ?_
                      rotate_left
                      · intro w'
                        go_simp
                        with_reducible rfl
                      rotate_left
                      · simp only [Act.put, List.setIfInBounds_toArray, List.set_cons_zero, List.set_cons_succ, i64_w, i32_w]
                        rfl
                      refine pure_ (i := 10) (N := some 105) (v := ?_) (a' := ?_) #[true, true, true, true, true, true, true, true, true, true, true, false, false] rfl rfl (any_of HT_.out (by kernel_rfl)) (fun _ _ _ h => h) (Or.inl ⟨by rfl, ?_⟩) ?_ ?_
                      rotate_left
                      · intro w'
                        go_simp
                        with_reducible rfl
                      rotate_left
                      · simp only [Act.put, List.setIfInBounds_toArray, List.set_cons_zero, List.set_cons_succ, i64_w, i32_w]
                        rfl
                      refine pure_ (i := 11) (N := some 16) (v := ?_) (a' := ?_) #[true, true, true, true, true, true, true, true, true, true, true, true, false] rfl rfl (any_of HT_.out (by kernel_rfl)) (fun _ _ _ h => h) (Or.inl ⟨by rfl, ?_⟩) ?_ ?_
                      rotate_left
                      · intro w'
                        go_simp
                        with_reducible rfl
                      rotate_left
                      · simp only [Act.put, List.setIfInBounds_toArray, List.set_cons_zero, List.set_cons_succ, i64_w, i32_w]
                        rfl
                      refine pure_ (i := 12) (N := some 17) (v := ?_) (a' := ?_) #[true, true, true, true, true, true, true, true, true, true, true, true, true] rfl rfl (any_of HT_.out (by kernel_rfl)) (fun _ _ _ h => h) (Or.inl ⟨by rfl, ?_⟩) ?_ ?_
                      rotate_left
                      · intro w'
                        go_simp
                        with_reducible rfl
                      rotate_left
                      · simp only [Act.put, List.setIfInBounds_toArray, List.set_cons_zero, List.set_cons_succ, i64_w, i32_w]
                        rfl
                      refine done_ (done_of HT_.out (by kernel_rfl)) ?_
                      try go_wp2_with (first | ((with_reducible refine gate_callee (f := 24) rfl ?_); refine goesL_ (some 117) rfl rfl Try.func24 (by kernel_rfl) rfl #[] rfl (by (try simp only [List.map_toArray, List.map_cons, List.map_nil]); first | done | rfl | (simp only [List.length_drop, List.length_take]; rfl)) ?_; (with_reducible refine (stopcocklaw12_awake.calls k1  false _ A87.out).mono ?_); rintro e w112 ⟨rfl, hb⟩; refine ⟨_, rfl, ?_⟩; have n0_ := Aside0.mk (Kd.R_below (by (with_reducible repeat (first | apply Kd.R_alloc | apply Kd.R_drewN | apply Kd.R_drew)); exact HO_10.out) hb); have n1_ := Aside0.mk (Kd.R_below (by (with_reducible repeat (first | apply Kd.R_alloc | apply Kd.R_drewN | apply Kd.R_drew)); exact HO166.out) hb); have n2_ := Aside0.mk (Kd.R_below (by (with_reducible repeat (first | apply Kd.R_alloc | apply Kd.R_drewN | apply Kd.R_drew)); exact HO169.out) hb); have n3_ := Aside0.mk (blk_below (g := gb152) (o := .cells #[.int .i64 ji5, .int .i64 (wrap64 (2 + (wrap64 (Int.tmod a1 15))))] 39 (0, 0)) (by (with_reducible repeat (first | refine blk_drewN ?_ _ | refine blk_drew ?_ | refine blk_alloc ?_ _)); exact BK152.out) hb); have n4_ := Aside0.mk (below_step (by repeat (first | (with_reducible first | exact HB.out | apply below_alloc | apply pw_below_drewN | apply below_drew1 | refine below_set ?_ GE152.out) | exact HB.out)) hb); clear HO_10; clear HO166; clear HO169; clear BK152; clear HB; have HO_10 := n0_; have HO166 := n1_; have HO169 := n2_; have BK152 := n3_; have HB := n4_; clear n0_ n1_ n2_ n3_ n4_; (try clear hb); (try clear hb2); (try clear hk); (try clear hi)))
                      go_ret
                      exact ⟨by first | rfl | (simp [errW_none, errW_some] <;> rfl) | (simp only [← hji5]; first | rfl | (simp [errW_none, errW_some] <;> rfl)) | (simp [*, errW_none, errW_some] <;> rfl), by repeat (first | (with_reducible first | exact HB.out | apply below_alloc | apply pw_below_drewN | apply below_drew1 | refine below_set ?_ GE152.out) | exact HB.out)⟩
                · rw [if_neg c45] at H
                  exact absurd H (by simp)
              · rw [if_neg c44] at H
                exact absurd H (by simp)
    · rw [if_neg c7] at H
      exact absurd H (by simp)
  · rw [if_neg c6] at H
    exact absurd H (by simp)

/-- THE ONE PURE STATEMENT of stopcocklaw12_ChooserSpread: yours. -/
def stopcocklaw12_ChooserSpread.Pure : Prop := ∀ (a0 : Int) (a1 : Int) (l2 : List Int) (a3 : Int), (Lit.int .u8 a0).wf = true → (Lit.int .u8 a1).wf = true → l2.length ≤ maxLen → l2.length * 1 ≤ 140737488351232 → (∀ x ∈ l2, (Lit.int .u8 x).wf = true) → (Lit.int .u8 a3).wf = true → ∃ k, stopcocklaw12_ChooserSpread.f k a0 a1 l2 a3 = some true
theorem stopcocklaw12_ChooserSpread.walk (P : stopcocklaw12_ChooserSpread.Pure) (a0 : Int) (a1 : Int) (a2 : Option Addr) (len2 cap2 : Nat) (z2 : List Int) (a3 : Int) (w : World) (w0 : (Lit.int .u8 a0).wf = true) (w1 : (Lit.int .u8 a1).wf = true) (w2 : (a2 = none ∧ len2 = 0 ∧ cap2 = 0 ∧ z2 = []) ∨ ∃ x, a2 = some x ∧ len2 ≤ cap2 ∧ cap2 ≤ maxLen ∧ z2.length = cap2 ∧ (∀ i, i < z2.length → w.cell? (x.add i) = some (.int .u8 (z2.getD i 0))) ∧ ∀ n ∈ z2, (Lit.int .u8 n).wf = true) (y2 : len2 * 1 ≤ 140737488351232) (w3 : (Lit.int .u8 a3).wf = true) :
    Calls Try.prog 13 #[.int .u8 a0, .int .u8 a1, .slice a2 len2 cap2, .int .u8 a3] w fun e w' => e = .returned (.bool true) ∧ Below w.heap.size w w' := by
  obtain ⟨l2, rfl, hr2, hm2, hw2, hc2⟩ := ReadsInt.ofRowC w2
  obtain ⟨k, h⟩ := P a0 a1 l2 a3 w0 w1 hm2 y2 hw2 w3
  refine (stopcocklaw12_ChooserSpread.calls k a0 a1 _ _ l2 a3 true w (Kd.C_of_reads (d := (0 : Int)) (h1 := fun _ => rfl) hr2) hc2 h).mono ?_
  rintro e w' ⟨rfl, hd⟩
  exact ⟨rfl, hd⟩

end Go.Proofs.Ytnbgljphdkfmpaa.PChooserSpread
