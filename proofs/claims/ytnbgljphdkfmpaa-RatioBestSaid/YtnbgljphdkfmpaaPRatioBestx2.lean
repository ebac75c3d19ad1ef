-- PRINTED BY print.sh 35421559b90ae4d0a3588c463048766b98c2df88dd9212a6774a882060cdf62d: not written by this session
import Derived.Test.YtnbgljphdkfmpaaPRatioBestx0
import Derived.Test.YtnbgljphdkfmpaaPRatioBestx1
namespace Go.Proofs.Ytnbgljphdkfmpaa.PRatioBest
open Go.RowKit Go.Proofs.YtnbgljphdkfmpaaW.PrintWords Go.Proofs.YtnbgljphdkfmpaaW.PrintLast Go.Proofs.YtnbgljphdkfmpaaW.PrintMore
attribute [local go_sem] max2_int min2_int max_two min_two max_three min_three max_four min_four   -- for this text's walks alone
set_option linter.unusedVariables false
set_option linter.unusedSimpArgs false

/-! ### stopcockref02_Compare: function 16 -/
mutual
def stopcockref02_Compare.j0 : Nat → Int → Int → Int → Int → Bool → Option (Int × Int)
  | 0, _, _, _, _, _ => none
  | k + 1, x0, x1, x2, x3, x22 => if x22 = true then (some (0, 1)) else (stopcockref02_Compare.l0 k x0 x1 x2 x3 1)
def stopcockref02_Compare.l0 : Nat → Int → Int → Int → Int → Int → Option (Int × Int)
  | 0, _, _, _, _, _ => none
  | k + 1, x0, x1, x2, x3, x10 => if x1 = 0 then (none) else (if x3 = 0 then (none) else (if (wrap64 (Int.tdiv x0 x1)) = (wrap64 (Int.tdiv x2 x3)) then (if (wrap64 (x0 - (wrap64 ((wrap64 (Int.tdiv x0 x1)) * x1)))) = 0 then (stopcockref02_Compare.j2 k (wrap64 (x0 - (wrap64 ((wrap64 (Int.tdiv x0 x1)) * x1)))) x1 (wrap64 (x2 - (wrap64 ((wrap64 (Int.tdiv x2 x3)) * x3)))) x3 x10 ((wrap64 (x2 - (wrap64 ((wrap64 (Int.tdiv x2 x3)) * x3)))) == 0)) else (stopcockref02_Compare.j2 k (wrap64 (x0 - (wrap64 ((wrap64 (Int.tdiv x0 x1)) * x1)))) x1 (wrap64 (x2 - (wrap64 ((wrap64 (Int.tdiv x2 x3)) * x3)))) x3 x10 false)) else (if (wrap64 (Int.tdiv x0 x1)) > (wrap64 (Int.tdiv x2 x3)) then (some (x10, 0)) else (some (wrap64 (-x10), 0)))))
def stopcockref02_Compare.j2 : Nat → Int → Int → Int → Int → Int → Bool → Option (Int × Int)
  | 0, _, _, _, _, _, _ => none
  | k + 1, x0, x1, x2, x3, x10, x53 => if x53 = true then (some (0, 0)) else (if x0 = 0 then (some (wrap64 (-x10), 0)) else (if x2 = 0 then (some (x10, 0)) else (stopcockref02_Compare.l0 k x1 x0 x3 x2 (wrap64 (-x10)))))
end
def stopcockref02_Compare.f (k : Nat) (a0 : Int) (a1 : Int) (a2 : Int) (a3 : Int) : Option (Int × Int) := (stopcockref02_May.f a0 a1).bind fun t128 => (if t128 = true then ((stopcockref02_May.f a2 a3).bind fun t129 => (stopcockref02_Compare.j0 k a0 a1 a2 a3 (!t129))) else (stopcockref02_Compare.j0 k a0 a1 a2 a3 true))
theorem stopcockref02_Compare.mono_l : ∀ k, (∀ y0 y1 y2 y3 y4, LeO (stopcockref02_Compare.j0 k y0 y1 y2 y3 y4) (stopcockref02_Compare.j0 (k + 1) y0 y1 y2 y3 y4)) ∧ (∀ y0 y1 y2 y3 y4, LeO (stopcockref02_Compare.l0 k y0 y1 y2 y3 y4) (stopcockref02_Compare.l0 (k + 1) y0 y1 y2 y3 y4)) ∧ (∀ y0 y1 y2 y3 y4 y5, LeO (stopcockref02_Compare.j2 k y0 y1 y2 y3 y4 y5) (stopcockref02_Compare.j2 (k + 1) y0 y1 y2 y3 y4 y5))
  | 0 => ⟨fun _ _ _ _ _ r h => by simp [stopcockref02_Compare.j0] at h, fun _ _ _ _ _ r h => by simp [stopcockref02_Compare.l0] at h, fun _ _ _ _ _ _ r h => by simp [stopcockref02_Compare.j2] at h⟩
  | k + 1 => by
    obtain ⟨ih0, ih1, ih2⟩ := stopcockref02_Compare.mono_l k
    refine ⟨?_, ?_, ?_⟩
    · intro y0 y1 y2 y3 y4
      unfold stopcockref02_Compare.j0
      repeat' first
      | (with_reducible exact ih0 _ _ _ _ _)
      | (with_reducible exact ih1 _ _ _ _ _)
      | (with_reducible exact ih2 _ _ _ _ _ _)
      | (with_reducible exact LeO.refl _)
      | (with_reducible exact LeO.none _)
      | (with_reducible refine LeO.ite ?_ ?_)
      | (with_reducible refine LeO.bind ?_ (fun _ => ?_))
      | exact ih0 _ _ _ _ _
      | exact ih1 _ _ _ _ _
      | exact ih2 _ _ _ _ _ _
      | exact LeO.none _
      | refine LeO.ite ?_ ?_
      | refine LeO.bind ?_ (fun _ => ?_)
    · intro y0 y1 y2 y3 y4
      unfold stopcockref02_Compare.l0
      repeat' first
      | (with_reducible exact ih0 _ _ _ _ _)
      | (with_reducible exact ih1 _ _ _ _ _)
      | (with_reducible exact ih2 _ _ _ _ _ _)
      | (with_reducible exact LeO.refl _)
      | (with_reducible exact LeO.none _)
      | (with_reducible refine LeO.ite ?_ ?_)
      | (with_reducible refine LeO.bind ?_ (fun _ => ?_))
      | exact ih0 _ _ _ _ _
      | exact ih1 _ _ _ _ _
      | exact ih2 _ _ _ _ _ _
      | exact LeO.none _
      | refine LeO.ite ?_ ?_
      | refine LeO.bind ?_ (fun _ => ?_)
    · intro y0 y1 y2 y3 y4 y5
      unfold stopcockref02_Compare.j2
      repeat' first
      | (with_reducible exact ih0 _ _ _ _ _)
      | (with_reducible exact ih1 _ _ _ _ _)
      | (with_reducible exact ih2 _ _ _ _ _ _)
      | (with_reducible exact LeO.refl _)
      | (with_reducible exact LeO.none _)
      | (with_reducible refine LeO.ite ?_ ?_)
      | (with_reducible refine LeO.bind ?_ (fun _ => ?_))
      | exact ih0 _ _ _ _ _
      | exact ih1 _ _ _ _ _
      | exact ih2 _ _ _ _ _ _
      | exact LeO.none _
      | refine LeO.ite ?_ ?_
      | refine LeO.bind ?_ (fun _ => ?_)
theorem stopcockref02_Compare.mono : ∀ a0 a1 a2 a3 k, LeO (stopcockref02_Compare.f k a0 a1 a2 a3) (stopcockref02_Compare.f (k + 1) a0 a1 a2 a3) := by
  intro a0 a1 a2 a3 k
  obtain ⟨ih0, ih1, ih2⟩ := stopcockref02_Compare.mono_l k
  unfold stopcockref02_Compare.f
  repeat' first
      | (with_reducible exact ih0 _ _ _ _ _)
      | (with_reducible exact ih1 _ _ _ _ _)
      | (with_reducible exact ih2 _ _ _ _ _ _)
      | (with_reducible exact LeO.refl _)
      | (with_reducible exact LeO.none _)
      | (with_reducible refine LeO.ite ?_ ?_)
      | (with_reducible refine LeO.bind ?_ (fun _ => ?_))
      | exact ih0 _ _ _ _ _
      | exact ih1 _ _ _ _ _
      | exact ih2 _ _ _ _ _ _
      | exact LeO.none _
      | refine LeO.ite ?_ ?_
      | refine LeO.bind ?_ (fun _ => ?_)
set_option maxHeartbeats 8000000 in
set_option maxRecDepth 100000 in
theorem stopcockref02_Compare.calls (k : Nat) (a0 : Int) (a1 : Int) (a2 : Int) (a3 : Int) (r1 : Int) (r2 : Int) (w : World) (h : stopcockref02_Compare.f k a0 a1 a2 a3 = some (r1, r2)) :
    Calls Try.prog 16 #[.int .i64 a0, .int .i64 a1, .int .i64 a2, .int .i64 a3] w fun e w' => e = .returned (.tuple #[.int .i64 r1, .int .i64 r2]) ∧ Drawn0 w w' := by
  have H : ((stopcockref02_May.f a0 a1).bind fun t128 => (if t128 = true then ((stopcockref02_May.f a2 a3).bind fun t129 => (stopcockref02_Compare.j0 k a0 a1 a2 a3 (!t129))) else (stopcockref02_Compare.j0 k a0 a1 a2 a3 true))) = some (r1, r2) := h
  clear h
  have HC5 := Aside0.mk H
  clear H
  go_enter Try.func16, Try.ntmps16
  go_upto_region 1 with (fail)
  repeat (go_quiet (fail); go_upto_region 1 with (fail))
  go_cut [22] (fun v22 wc => ∃ (kq : Nat) (x22_4 : Bool), v22 = .bool x22_4 ∧ Aside0 (stopcockref02_Compare.j0 kq a0 a1 a2 a3 x22_4 = some (r1, r2)) ∧ Aside0 (kq ≤ k) ∧ Drawn0 w wc)
  case first =>
    have H := HC5.out
    clear HC5
    replace H := Option.bind_eq_some_iff.mp H
    obtain ⟨t128, A60, H⟩ := H
    replace H : (if t128 = true then ((stopcockref02_May.f a2 a3).bind fun t129 => (stopcockref02_Compare.j0 k a0 a1 a2 a3 (!t129))) else (stopcockref02_Compare.j0 k a0 a1 a2 a3 true)) = some (r1, r2) := H
    have A6 := Aside0.mk A60
    clear A60
    by_cases c7 : t128 = true
    · subst c7
      have H1 : ((stopcockref02_May.f a2 a3).bind fun t129 => (stopcockref02_Compare.j0 k a0 a1 a2 a3 (!t129))) = some (r1, r2) := by rw [if_pos rfl] at H; exact H
      clear H
      have H := H1
      clear H1
      replace H := Option.bind_eq_some_iff.mp H
      obtain ⟨t129, A80, H⟩ := H
      replace H : (stopcockref02_Compare.j0 k a0 a1 a2 a3 (!t129)) = some (r1, r2) := H
      have A8 := Aside0.mk A80
      clear A80
      have H' := Aside0.mk H
      clear H
      go_wp2_with (first | (go_at_call 29; (with_reducible refine (stopcockref02_May.calls a0 a1 true _ A6.out).mono ?_); rintro e w' ⟨rfl, ⟨nd, rfl⟩⟩; (try first | exact ⟨rfl, _, World.drewN_drewN _ _ _⟩ | exact ⟨rfl, _, Eq.trans (World.drewN_drewN _ _ _) (congrArg (World.drewN _) (Nat.add_assoc _ _ _))⟩)) | (go_at_call 29; (with_reducible refine (stopcockref02_May.calls a2 a3 t129 _ A8.out).mono ?_); rintro e w' ⟨rfl, ⟨nd, rfl⟩⟩; (try first | exact ⟨rfl, _, World.drewN_drewN _ _ _⟩ | exact ⟨rfl, _, Eq.trans (World.drewN_drewN _ _ _) (congrArg (World.drewN _) (Nat.add_assoc _ _ _))⟩)))
      repeat (go_quiet (first | (go_at_call 29; (with_reducible refine (stopcockref02_May.calls a0 a1 true _ A6.out).mono ?_); rintro e w' ⟨rfl, ⟨nd, rfl⟩⟩; (try first | exact ⟨rfl, _, World.drewN_drewN _ _ _⟩ | exact ⟨rfl, _, Eq.trans (World.drewN_drewN _ _ _) (congrArg (World.drewN _) (Nat.add_assoc _ _ _))⟩)) | (go_at_call 29; (with_reducible refine (stopcockref02_May.calls a2 a3 t129 _ A8.out).mono ?_); rintro e w' ⟨rfl, ⟨nd, rfl⟩⟩; (try first | exact ⟨rfl, _, World.drewN_drewN _ _ _⟩ | exact ⟨rfl, _, Eq.trans (World.drewN_drewN _ _ _) (congrArg (World.drewN _) (Nat.add_assoc _ _ _))⟩))); try go_wp2_with (first | (go_at_call 29; (with_reducible refine (stopcockref02_May.calls a0 a1 true _ A6.out).mono ?_); rintro e w' ⟨rfl, ⟨nd, rfl⟩⟩; (try first | exact ⟨rfl, _, World.drewN_drewN _ _ _⟩ | exact ⟨rfl, _, Eq.trans (World.drewN_drewN _ _ _) (congrArg (World.drewN _) (Nat.add_assoc _ _ _))⟩)) | (go_at_call 29; (with_reducible refine (stopcockref02_May.calls a2 a3 t129 _ A8.out).mono ?_); rintro e w' ⟨rfl, ⟨nd, rfl⟩⟩; (try first | exact ⟨rfl, _, World.drewN_drewN _ _ _⟩ | exact ⟨rfl, _, Eq.trans (World.drewN_drewN _ _ _) (congrArg (World.drewN _) (Nat.add_assoc _ _ _))⟩))))
      go_meet
      case rel => exact ⟨_, (!t129), (by first | rfl | (simp; done) | (simp [*]; done)), H', ⟨by first | omega | exact Nat.le_refl _⟩, by repeat (first | exact Drawn0.refl _ | apply Drawn0.step)⟩
    · replace c7 := Bool.eq_false_iff.mpr c7
      subst c7
      have H1 : (stopcockref02_Compare.j0 k a0 a1 a2 a3 true) = some (r1, r2) := by rw [if_neg (show ¬ (false = true) by decide)] at H; exact H
      clear H
      have H := H1
      clear H1
      have H' := Aside0.mk H
      clear H
      go_wp2_with (first | (go_at_call 29; (with_reducible refine (stopcockref02_May.calls a0 a1 false _ A6.out).mono ?_); rintro e w' ⟨rfl, ⟨nd, rfl⟩⟩; (try first | exact ⟨rfl, _, World.drewN_drewN _ _ _⟩ | exact ⟨rfl, _, Eq.trans (World.drewN_drewN _ _ _) (congrArg (World.drewN _) (Nat.add_assoc _ _ _))⟩)))
      repeat (go_quiet (first | (go_at_call 29; (with_reducible refine (stopcockref02_May.calls a0 a1 false _ A6.out).mono ?_); rintro e w' ⟨rfl, ⟨nd, rfl⟩⟩; (try first | exact ⟨rfl, _, World.drewN_drewN _ _ _⟩ | exact ⟨rfl, _, Eq.trans (World.drewN_drewN _ _ _) (congrArg (World.drewN _) (Nat.add_assoc _ _ _))⟩))); try go_wp2_with (first | (go_at_call 29; (with_reducible refine (stopcockref02_May.calls a0 a1 false _ A6.out).mono ?_); rintro e w' ⟨rfl, ⟨nd, rfl⟩⟩; (try first | exact ⟨rfl, _, World.drewN_drewN _ _ _⟩ | exact ⟨rfl, _, Eq.trans (World.drewN_drewN _ _ _) (congrArg (World.drewN _) (Nat.add_assoc _ _ _))⟩))))
      go_meet
      case rel => exact ⟨_, (true), (by first | rfl | (simp; done) | (simp [*]; done)), H', ⟨by first | omega | exact Nat.le_refl _⟩, by repeat (first | exact Drawn0.refl _ | apply Drawn0.step)⟩
  case rest =>
    clear HC5
    try clear c1
    try clear p2
    try clear c7
    obtain ⟨kq, x22_4, rfl, HA, HJ4, ⟨mc4, rfl⟩⟩ := hcut
    cases kq with
    | zero => exact absurd HA.out (by simp [stopcockref02_Compare.j0])
    | succ kj4 =>
      have H := HA.out
      clear HA
      simp only [stopcockref02_Compare.j0] at H
      by_cases c9 : x22_4 = true
      · subst c9
        have H1 : (some (0, 1)) = some (r1, r2) := by rw [if_pos rfl] at H; exact H
        clear H
        have H := H1
        clear H1
        simp only [Option.some.injEq, Prod.mk.injEq] at H
        obtain ⟨rfl, rfl⟩ := H
        go_wp2
        repeat (go_quiet (fail); try go_wp2)
        go_ret2
        exact ⟨by first | rfl | (simp; done) | (simp [*]; done), by repeat (first | exact Drawn0.refl _ | apply Drawn0.step)⟩
      · replace c9 := Bool.eq_false_iff.mpr c9
        subst c9
        have H1 : (stopcockref02_Compare.l0 kj4 a0 a1 a2 a3 1) = some (r1, r2) := by rw [if_neg (show ¬ (false = true) by decide)] at H; exact H
        clear H
        have H := H1
        clear H1
        have H' := Aside0.mk H
        clear H
        go_wp2
        repeat (go_quiet (fail); try go_wp2)
        go_loopg [0, 1, 2, 3, 10] kj4 (fun kq v0 v1 v2 v3 v10 w' => ∃ (x0_2 : Int) (x1_2 : Int) (x2_2 : Int) (x3_2 : Int) (x10_2 : Int), v0 = .int .i64 x0_2 ∧ v1 = .int .i64 x1_2 ∧ v2 = .int .i64 x2_2 ∧ v3 = .int .i64 x3_2 ∧ v10 = .int .i64 x10_2 ∧ Aside0 (stopcockref02_Compare.l0 kq x0_2 x1_2 x2_2 x3_2 x10_2 = some (r1, r2)) ∧ Aside0 (kq ≤ kj4) ∧ Drawn0 w w')
        case atStart => exact ⟨(a0), (a1), (a2), (a3), (1), (by first | rfl | (simp; done) | (simp [*]; done)), (by first | rfl | (simp; done) | (simp [*]; done)), (by first | rfl | (simp; done) | (simp [*]; done)), (by first | rfl | (simp; done) | (simp [*]; done)), (by first | rfl | (simp; done) | (simp [*]; done)), H', ⟨Nat.le_refl _⟩, by repeat (first | exact Drawn0.refl _ | apply Drawn0.step)⟩
        case round =>
          clear H'
          try clear c1
          try clear p2
          try clear c4
          try clear c7
          try clear c9
          try clear p2
          obtain ⟨x0_2, x1_2, x2_2, x3_2, x10_2, rfl, rfl, rfl, rfl, rfl, HA, HK2, ⟨m2, rfl⟩⟩ := hrel
          cases gk with
          | zero => exact absurd HA.out (by simp [stopcockref02_Compare.l0])
          | succ k2 =>
            have H := HA.out
            clear HA
            simp only [stopcockref02_Compare.l0] at H
            by_cases c10 : x1_2 = 0
            · rw [if_pos c10] at H
              exact absurd H (by simp)
            · rw [if_neg c10] at H
              have c10b0 : (x1_2 == 0) = false := beq_eq_false_iff_ne.mpr c10
              have c10b1 : (x1_2 != 0) = true := bne_iff_ne.mpr c10
              by_cases c11 : x3_2 = 0
              · rw [if_pos c11] at H
                exact absurd H (by simp)
              · rw [if_neg c11] at H
                have c11b0 : (x3_2 == 0) = false := beq_eq_false_iff_ne.mpr c11
                have c11b1 : (x3_2 != 0) = true := bne_iff_ne.mpr c11
                by_cases c12 : (wrap64 (Int.tdiv x0_2 x1_2)) = (wrap64 (Int.tdiv x2_2 x3_2))
                · rw [if_pos c12] at H
                  have c12b0 : ((wrap64 (Int.tdiv x0_2 x1_2)) == (wrap64 (Int.tdiv x2_2 x3_2))) = true := beq_iff_eq.mpr c12
                  have c12b1 : ((wrap64 (Int.tdiv x0_2 x1_2)) != (wrap64 (Int.tdiv x2_2 x3_2))) = false := bne_eq_false_iff_eq.mpr c12
                  clear c12
                  have HC13 := Aside0.mk H
                  clear H
                  go_upto_region 10 with (fail)
                  repeat (go_quiet (fail); go_upto_region 10 with (fail))
                  go_cut [53] (fun v53 wc => ∃ (kq : Nat) (x53_12 : Bool), v53 = .bool x53_12 ∧ Aside0 (stopcockref02_Compare.j2 kq (wrap64 (x0_2 - (wrap64 ((wrap64 (Int.tdiv x0_2 x1_2)) * x1_2)))) x1_2 (wrap64 (x2_2 - (wrap64 ((wrap64 (Int.tdiv x2_2 x3_2)) * x3_2)))) x3_2 x10_2 x53_12 = some (r1, r2)) ∧ Aside0 (kq ≤ k2) ∧ Drawn0 w wc)
                  case first =>
                    have H := HC13.out
                    clear HC13
                    by_cases c14 : (wrap64 (x0_2 - (wrap64 ((wrap64 (Int.tdiv x0_2 x1_2)) * x1_2)))) = 0
                    · rw [if_pos c14] at H
                      have c14b0 : ((wrap64 (x0_2 - (wrap64 ((wrap64 (Int.tdiv x0_2 x1_2)) * x1_2)))) == 0) = true := beq_iff_eq.mpr c14
                      have c14b1 : ((wrap64 (x0_2 - (wrap64 ((wrap64 (Int.tdiv x0_2 x1_2)) * x1_2)))) != 0) = false := bne_eq_false_iff_eq.mpr c14
                      clear c14
                      (first | rw [c14b0] | (simp only [i64_w, i32_w]; rw [c14b0]) | skip)
                      have H' := Aside0.mk H
                      clear H
                      go_wp2
                      repeat (go_quiet (fail); try go_wp2)
                      go_meet
                      case rel => exact ⟨_, (((wrap64 (x2_2 - (wrap64 ((wrap64 (Int.tdiv x2_2 x3_2)) * x3_2)))) == 0)), (by first | rfl | (simp; done) | (simp [*]; done)), H', ⟨by have := HJ4.out; have := HK2.out; first | omega | exact Nat.le_refl _⟩, by repeat (first | exact Drawn0.refl _ | apply Drawn0.step)⟩
                    · rw [if_neg c14] at H
                      have c14b0 : ((wrap64 (x0_2 - (wrap64 ((wrap64 (Int.tdiv x0_2 x1_2)) * x1_2)))) == 0) = false := beq_eq_false_iff_ne.mpr c14
                      have c14b1 : ((wrap64 (x0_2 - (wrap64 ((wrap64 (Int.tdiv x0_2 x1_2)) * x1_2)))) != 0) = true := bne_iff_ne.mpr c14
                      (first | rw [c14b0] | (simp only [i64_w, i32_w]; rw [c14b0]) | skip)
                      have H' := Aside0.mk H
                      clear H
                      go_wp2
                      repeat (go_quiet (fail); try go_wp2)
                      go_meet
                      case rel => exact ⟨_, (false), (by first | rfl | (simp; done) | (simp [*]; done)), H', ⟨by have := HJ4.out; have := HK2.out; first | omega | exact Nat.le_refl _⟩, by repeat (first | exact Drawn0.refl _ | apply Drawn0.step)⟩
                  case rest =>
                    clear HC13
                    try clear c1
                    try clear p2
                    try clear c4
                    try clear p6
                    try clear c7
                    try clear c9
                    try clear c10
                    try clear c10b0
                    try clear c10b1
                    try clear c11
                    try clear c11b0
                    try clear c11b1
                    try clear c12
                    try clear c12b0
                    try clear c12b1
                    try clear c14
                    try clear c14b0
                    try clear c14b1
                    try clear p2
                    obtain ⟨kq, x53_12, rfl, HA, HJ12, ⟨mc12, rfl⟩⟩ := hcut
                    cases kq with
                    | zero => exact absurd HA.out (by simp [stopcockref02_Compare.j2])
                    | succ kj12 =>
                      have H := HA.out
                      clear HA
                      simp only [stopcockref02_Compare.j2] at H
                      by_cases c15 : x53_12 = true
                      · subst c15
                        have H1 : (some (0, 0)) = some (r1, r2) := by rw [if_pos rfl] at H; exact H
                        clear H
                        have H := H1
                        clear H1
                        simp only [Option.some.injEq, Prod.mk.injEq] at H
                        obtain ⟨rfl, rfl⟩ := H
                        go_wp2
                        repeat (go_quiet (fail); try go_wp2)
                        go_ret2
                        exact ⟨by first | rfl | (simp; done) | (simp [*]; done), by repeat (first | exact Drawn0.refl _ | apply Drawn0.step)⟩
                      · replace c15 := Bool.eq_false_iff.mpr c15
                        subst c15
                        have H1 : (if (wrap64 (x0_2 - (wrap64 ((wrap64 (Int.tdiv x0_2 x1_2)) * x1_2)))) = 0 then (some (wrap64 (-x10_2), 0)) else (if (wrap64 (x2_2 - (wrap64 ((wrap64 (Int.tdiv x2_2 x3_2)) * x3_2)))) = 0 then (some (x10_2, 0)) else (stopcockref02_Compare.l0 kj12 x1_2 (wrap64 (x0_2 - (wrap64 ((wrap64 (Int.tdiv x0_2 x1_2)) * x1_2)))) x3_2 (wrap64 (x2_2 - (wrap64 ((wrap64 (Int.tdiv x2_2 x3_2)) * x3_2)))) (wrap64 (-x10_2))))) = some (r1, r2) := by rw [if_neg (show ¬ (false = true) by decide)] at H; exact H
                        clear H
                        have H := H1
                        clear H1
                        by_cases c16 : (wrap64 (x0_2 - (wrap64 ((wrap64 (Int.tdiv x0_2 x1_2)) * x1_2)))) = 0
                        · rw [if_pos c16] at H
                          have c16b0 : ((wrap64 (x0_2 - (wrap64 ((wrap64 (Int.tdiv x0_2 x1_2)) * x1_2)))) == 0) = true := beq_iff_eq.mpr c16
                          have c16b1 : ((wrap64 (x0_2 - (wrap64 ((wrap64 (Int.tdiv x0_2 x1_2)) * x1_2)))) != 0) = false := bne_eq_false_iff_eq.mpr c16
                          clear c16
                          simp only [Option.some.injEq, Prod.mk.injEq] at H
                          obtain ⟨rfl, rfl⟩ := H
                          go_wp2
                          repeat (go_quiet (fail); try go_wp2)
                          go_ret2
                          exact ⟨by first | rfl | (simp; done) | (simp [*]; done), by repeat (first | exact Drawn0.refl _ | apply Drawn0.step)⟩
                        · rw [if_neg c16] at H
                          have c16b0 : ((wrap64 (x0_2 - (wrap64 ((wrap64 (Int.tdiv x0_2 x1_2)) * x1_2)))) == 0) = false := beq_eq_false_iff_ne.mpr c16
                          have c16b1 : ((wrap64 (x0_2 - (wrap64 ((wrap64 (Int.tdiv x0_2 x1_2)) * x1_2)))) != 0) = true := bne_iff_ne.mpr c16
                          by_cases c17 : (wrap64 (x2_2 - (wrap64 ((wrap64 (Int.tdiv x2_2 x3_2)) * x3_2)))) = 0
                          · rw [if_pos c17] at H
                            have c17b0 : ((wrap64 (x2_2 - (wrap64 ((wrap64 (Int.tdiv x2_2 x3_2)) * x3_2)))) == 0) = true := beq_iff_eq.mpr c17
                            have c17b1 : ((wrap64 (x2_2 - (wrap64 ((wrap64 (Int.tdiv x2_2 x3_2)) * x3_2)))) != 0) = false := bne_eq_false_iff_eq.mpr c17
                            clear c17
                            simp only [Option.some.injEq, Prod.mk.injEq] at H
                            obtain ⟨rfl, rfl⟩ := H
                            go_wp2
                            repeat (go_quiet (fail); try go_wp2)
                            go_ret2
                            exact ⟨by first | rfl | (simp; done) | (simp [*]; done), by repeat (first | exact Drawn0.refl _ | apply Drawn0.step)⟩
                          · rw [if_neg c17] at H
                            have c17b0 : ((wrap64 (x2_2 - (wrap64 ((wrap64 (Int.tdiv x2_2 x3_2)) * x3_2)))) == 0) = false := beq_eq_false_iff_ne.mpr c17
                            have c17b1 : ((wrap64 (x2_2 - (wrap64 ((wrap64 (Int.tdiv x2_2 x3_2)) * x3_2)))) != 0) = true := bne_iff_ne.mpr c17
                            have H' := Aside0.mk H
                            clear H
                            go_wp2
                            repeat (go_quiet (fail); try go_wp2)
                            go_roundg kj12
                            case measure => have := HJ4.out; have := HK2.out; have := HJ12.out; omega
                            case rel => exact ⟨(x1_2), ((wrap64 (x0_2 - (wrap64 ((wrap64 (Int.tdiv x0_2 x1_2)) * x1_2))))), (x3_2), ((wrap64 (x2_2 - (wrap64 ((wrap64 (Int.tdiv x2_2 x3_2)) * x3_2))))), (wrap64 (-x10_2)), (by first | rfl | (simp; done) | (simp [*]; done)), (by first | rfl | (simp; done) | (simp [*]; done)), (by first | rfl | (simp; done) | (simp [*]; done)), (by first | rfl | (simp; done) | (simp [*]; done)), (by first | rfl | (simp; done) | (simp [*]; done)), H', ⟨by have := HJ4.out; have := HK2.out; have := HJ12.out; omega⟩, by repeat (first | exact Drawn0.refl _ | apply Drawn0.step)⟩
                · rw [if_neg c12] at H
                  have c12b0 : ((wrap64 (Int.tdiv x0_2 x1_2)) == (wrap64 (Int.tdiv x2_2 x3_2))) = false := beq_eq_false_iff_ne.mpr c12
                  have c12b1 : ((wrap64 (Int.tdiv x0_2 x1_2)) != (wrap64 (Int.tdiv x2_2 x3_2))) = true := bne_iff_ne.mpr c12
                  by_cases c18 : (wrap64 (Int.tdiv x0_2 x1_2)) > (wrap64 (Int.tdiv x2_2 x3_2))
                  · rw [if_pos c18] at H
                    have c18b0 : decide ((wrap64 (Int.tdiv x2_2 x3_2)) < (wrap64 (Int.tdiv x0_2 x1_2))) = true := decide_eq_true c18
                    clear c18
                    simp only [Option.some.injEq, Prod.mk.injEq] at H
                    obtain ⟨rfl, rfl⟩ := H
                    go_wp2
                    repeat (go_quiet (fail); try go_wp2)
                    go_ret2
                    exact ⟨by first | rfl | (simp; done) | (simp [*]; done), by repeat (first | exact Drawn0.refl _ | apply Drawn0.step)⟩
                  · rw [if_neg c18] at H
                    have c18b0 : decide ((wrap64 (Int.tdiv x2_2 x3_2)) < (wrap64 (Int.tdiv x0_2 x1_2))) = false := decide_eq_false c18
                    clear c18
                    simp only [Option.some.injEq, Prod.mk.injEq] at H
                    obtain ⟨rfl, rfl⟩ := H
                    go_wp2
                    repeat (go_quiet (fail); try go_wp2)
                    go_ret2
                    exact ⟨by first | rfl | (simp; done) | (simp [*]; done), by repeat (first | exact Drawn0.refl _ | apply Drawn0.step)⟩

end Go.Proofs.Ytnbgljphdkfmpaa.PRatioBest
