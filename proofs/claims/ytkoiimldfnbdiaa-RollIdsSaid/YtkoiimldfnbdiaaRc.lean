/- What package roll's calls come to in the law's awake, and awake itself. No conditions. -/
import Derived.Test.YtkoiimldfnbdiaaRb
namespace Go.Proofs.Ytkoiimldfnbdiaa.Rc
open Go.RowKit Go.Proofs.Ytkoiimldfnbdiaa.Ra Go.Proofs.Ytkoiimldfnbdiaa.Rb

theorem two_ge : (FloatKind.f64.format.order 4611686018427387904 0 == some .gt || FloatKind.f64.format.order 4611686018427387904 0 == some .eq) = true := by decide +kernel
theorem two_lt24 : (FloatKind.f64.format.order 4611686018427387904 (floatOfInt .f64 24) == some .lt) = true := by decide +kernel
theorem two_lt16 : (FloatKind.f64.format.order 4611686018427387904 (floatOfInt .f64 16) == some .lt) = true := by decide +kernel
theorem two_int : floatToIntVal .f64 4611686018427387904 .i64 = some 2 := by decide +kernel
theorem two_eq : (FloatKind.f64.format.order (floatOfInt .f64 2) 4611686018427387904 == some .eq) = true := by decide +kernel

theorem within_any (z : Nat) (m : Int) (g1 : (FloatKind.f64.format.order z 0 == some .gt || FloatKind.f64.format.order z 0 == some .eq) = true) (g2 : (FloatKind.f64.format.order z (floatOfInt .f64 m) == some .lt) = true)
    (g5 : floatToIntVal .f64 z .i64 = some 2) (g4 : (FloatKind.f64.format.order (floatOfInt .f64 2) z == some .eq) = true) (w : World) : Calls Try.prog 20 #[.float .f64 z, .int .i64 m] w fun e w' => e = .returned (.bool true) ∧ w = w' := by
  have g3 : ∀ w : World, (convert 58 3 (.float .f64 z)).run Try.prog w = .ok (.int .i64 2) w := fun w => run_convert_float_int w 58 3 .f64 .i64 _ _ (by kernel_rfl) Try.underlying3 g5
  clear g5
  have u24 := Try.underlying58
  go_enter Try.func20, Try.ntmps20
  go_wp2
  go_ret
  exact ⟨rfl, rfl⟩

theorem whole (w : World) : Calls Try.prog 14 #[.complex .f64 4611686018427387904 4611686018427387904] w fun e w' => e = .returned (.bool true) ∧ w = w' := by
  have c1 := within_any _ 24 two_ge two_lt24 two_int two_eq
  have c2 := within_any _ 16 two_ge two_lt16 two_int two_eq
  go_enter Try.func14, Try.ntmps14
  go_wp2_with (first | (go_at_call 20; (with_reducible refine (c1 _).mono ?_); rintro e w' ⟨rfl, rfl⟩) | (go_at_call 20; (with_reducible refine (c2 _).mono ?_); rintro e w' ⟨rfl, rfl⟩))
  go_ret
  exact ⟨rfl, rfl⟩

theorem sum0 : cSumBits .add .f64 4611686018427387904 4611686018427387904 0 0 = some (4611686018427387904, 4611686018427387904) := by decide +kernel

/-- What Put leaves. -/
def PutDone (w : World) (e : Ending) (w' : World) : Prop := ∃ v, e = .returned (.tuple #[v, .int .i64 0]) ∧ SetDone w (.returned v) w'

theorem put {w : World} {t g cap : Nat} (h : Tab w t g cap (.pointer none)) : Calls Try.prog 15 #[.pointer (some ⟨t, 0, none⟩), .int .i64 1, .complex .f64 4611686018427387904 4611686018427387904] w (PutDone w) := by
  have c1 := there h
  have c2 := whole w
  have c3 := set_ h
  have hs : ∀ w : World, (binOp .add 40 (.complex .f64 4611686018427387904 4611686018427387904) (.complex .f64 0 0)).run Try.prog w = .ok (.complex .f64 4611686018427387904 4611686018427387904) w := fun w => run_complex_sum w .add (.inl rfl) 40 .f64 _ _ _ _ _ _ sum0
  clear h
  go_enter Try.func15, Try.ntmps15
  go_wp2_with (first | (go_at_call 21; (with_reducible refine c1.mono ?_); rintro e w' ⟨rfl, rfl⟩) | (go_at_call 14; (with_reducible refine c2.mono ?_); rintro e w' ⟨rfl, rfl⟩) | (go_at_call 22; (with_reducible refine c3.mono ?_); rintro e w' ⟨t2, cc, cap2, q, rfl, hT, hq, hB, hR⟩))
  go_ret2
  exact ⟨_, rfl, t2, cc, cap2, q, rfl, hT, hq, hB, hR⟩

theorem tab_below {w w' : World} {t g cap : Nat} {v : Value} (h : Tab w t g cap v) (hb : Below w.heap.size w w') : Tab w' t g cap v :=
  ⟨Nat.lt_of_lt_of_le h.tl hb.size, Nat.lt_of_lt_of_le h.gl hb.size, (hb.cell (p := ⟨t, 0, none⟩) h.tl).trans h.size, (hb.cell (p := ⟨t, 1, none⟩) h.tl).trans h.row, (hb.cell (p := ⟨g, 0, none⟩) h.gl).trans h.page⟩

/-- What Set leaves: the roll with another table for the volume, and that table. -/
def RollSet (w : World) (b : Nat) (k : Nat → Int) (s p : Nat → Value) (w' : World) : Prop := ∃ t2 c cap2 q : Nat, RollAt w' b k s (upd p 0 (.pointer (some ⟨t2, 0, none⟩))) ∧ Tab w' t2 c cap2 (.pointer (some ⟨q, 0, none⟩)) ∧ w'.cell? ⟨q, 1, none⟩ = some (.complex .f64 4611686018427387904 4611686018427387904) ∧ w.grownBy w' (some b) ∧ t2 ≠ b ∧ c ≠ b ∧ q ≠ b ∧ q < w'.heap.size

theorem roll_ptr {w : World} {b : Nat} {k : Nat → Int} {s p : Nat → Value} (h : RollAt w b k s p) (q : Value) : RollAt (w.setCell ⟨b, 16, none⟩ q) b k s (upd p 0 q) := by
  have ne : ∀ {o o' : Nat}, o ≠ o' → (⟨b, o, none⟩ : Addr) ≠ ⟨b, o', none⟩ := fun h e => h (by injection e)
  refine ⟨by simpa using h.lt, fun j hj => ?_, fun j hj => ?_, fun j hj => ?_, fun o ho => by simpa using h.free o ho⟩
  · rw [World.cell?_setCell_other (h := ne (by omega))]
    exact h.kind j hj
  · rw [World.cell?_setCell_other (h := ne (by omega))]
    exact h.size j hj
  · by_cases e : j = 0
    · subst e
      rw [upd_at]
      exact World.cell?_setCell_same _ _ _ (h.ptr 0 hj)
    · rw [upd_ne _ _ e, World.cell?_setCell_other (h := ne (by omega))]
      exact h.ptr j hj

theorem far_cell {w : World} {b o c x : Nat} {u v : Value} (h : w.cell? ⟨c, o, none⟩ = some v) (hne : c ≠ b) : (w.setCell ⟨b, x, none⟩ u).cell? ⟨c, o, none⟩ = some v := by
  rw [World.cell?_setCell_other (h := fun e' => by injection e' with e2 _ _; exact hne e2.symm)]
  exact h

theorem roll_set {w W w2 : World} {b t2 c cap2 q : Nat} {k : Nat → Int} {s p : Nat → Value} (h : RollAt w b k s p) (hB : Below w.heap.size w W) (hT : Tab w2 t2 c cap2 (.pointer (some ⟨q, 0, none⟩)))
    (hq : w2.cell? ⟨q, 1, none⟩ = some (.complex .f64 4611686018427387904 4611686018427387904)) (hB2 : Below W.heap.size W w2) (hR : W.heap.size ≤ t2 ∧ W.heap.size ≤ c ∧ W.heap.size ≤ q ∧ q < w2.heap.size) : RollSet w b k s p (w2.setCell ⟨b, 16, none⟩ (.pointer (some ⟨t2, 0, none⟩))) := by
  have L := h.lt
  have S := hB.size
  obtain ⟨r1, r2, r3, r4⟩ := hR
  refine ⟨t2, c, cap2, q, roll_ptr ((h.below hB).below hB2) _, ⟨by simpa using hT.tl, by simpa using hT.gl, far_cell hT.size (by omega), far_cell hT.row (by omega), far_cell hT.page (by omega)⟩, far_cell hq (by omega), grown_trans (grown_of_below (hB.trans (hB2.mono S))) (grown_set _ _ _), by omega, by omega, by omega, by simpa using r4⟩

theorem set_yes {w : World} {b : Nat} {k : Nat → Int} {s p : Nat → Value} (h : RollAt w b k s p) (hk : k 0 = 1) (hs : s 0 = .int .i64 3) {t g cap : Nat} (hp : p 0 = .pointer (some ⟨t, 0, none⟩)) (hT : Tab w t g cap (.pointer none)) :
    Calls Try.prog 9 #[.pointer (some ⟨b, 0, none⟩), .int .i64 0, .int .i64 1, .complex .f64 4611686018427387904 4611686018427387904, .bool true] w fun e w' => e = .returned (.int .i64 0) ∧ RollSet w b k s p w' := by
  have c1 : Calls Try.prog 13 #[.pointer (some ⟨b, 0, none⟩), .int .i64 0] w fun e w' => e = .returned (.tuple #[.agg #[.int .i64 (k 0), .int .i64 3], .int .i64 0]) ∧ Below w.heap.size w w' := entry_yes h 0 (by omega) (by omega) 3 hs
  rw [hk] at c1
  have L := h.lt
  have P0 : w.cell? ⟨b, 16, none⟩ = some (p 0) := h.ptr 0 (by omega)
  rw [hp] at P0
  have F0 := h.free 16 (by omega)
  have H := Lib.hid h
  have cw := fun W => whole W
  have cp := fun (W : World) (hB : Below w.heap.size w W) => put (tab_below hT hB)
  clear h hk hs hp hT
  go_enter Try.func9, Try.ntmps9
  go_wp2_with (first | (go_at_call 13; (with_reducible refine c1.mono ?_); rintro e w1 ⟨rfl, hb⟩; have P1 : w1.cell? ⟨b, 16, none⟩ = some (.pointer (some ⟨t, 0, none⟩)) := (hb.cell (p := ⟨b, 16, none⟩) L).trans P0; have L1 : b < w1.heap.size := Nat.lt_of_lt_of_le L hb.size) | (go_at_call 14; (with_reducible refine (cw _).mono ?_); rintro e w' ⟨rfl, rfl⟩) | (go_at_call 15; refine (cp _ (hb.trans ((Below.refl _ _).alloc hb.size _))).mono ?_; rintro e w2 ⟨v, rfl, t2, cc, cap2, q, hv, hT2, hq2, hB2, hR2⟩; injection hv with hv; subst hv; have P2 : w2.cell? ⟨b, 16, none⟩ = some (.pointer (some ⟨t, 0, none⟩)) := (hB2.cell (p := ⟨b, 16, none⟩) (by simp; omega)).trans (alloc_cell _ P1); have F2 : w2.frozen? ⟨b, 16, none⟩ = false := (hB2.frozen (p := ⟨b, 16, none⟩) (by simp; omega)).trans (((Below.refl _ _).alloc (Nat.le_refl _) _).frozen (p := ⟨b, 16, none⟩) L1 |>.trans ((hb.frozen (p := ⟨b, 16, none⟩) L).trans F0)); have R2 := Lib.hid (roll_set H.out (hb.trans ((Below.refl _ _).alloc hb.size _)) hT2 hq2 hB2 hR2); have L2 : b < w2.heap.size := by have := hB2.size; simp at this; omega))
  go_ret
  exact ⟨rfl, R2.out⟩

theorem set_no {w : World} {b : Nat} {k : Nat → Int} {s p : Nat → Value} (h : RollAt w b k s p) (hk : k 1 = 2) (hs : s 1 = .int .i64 3) (x y : Nat) :
    Calls Try.prog 9 #[.pointer (some ⟨b, 0, none⟩), .int .i64 1, .int .i64 1, .complex .f64 x y, .bool false] w fun e w' => e = .returned (.int .i64 8) ∧ Below w.heap.size w w' := by
  have c1 : Calls Try.prog 13 #[.pointer (some ⟨b, 0, none⟩), .int .i64 1] w fun e w' => e = .returned (.tuple #[.agg #[.int .i64 (k 1), .int .i64 3], .int .i64 0]) ∧ Below w.heap.size w w' := entry_yes h 1 (by omega) (by omega) 3 hs
  rw [hk] at c1
  clear h hk hs
  go_enter Try.func9, Try.ntmps9
  go_wp2_with (go_at_call 13; (with_reducible refine c1.mono ?_); rintro e w1 ⟨rfl, hb⟩)
  go_ret
  exact ⟨rfl, hb.trans ((Below.refl _ _).alloc hb.size _)⟩

theorem table_get {w : World} {t g cap q : Nat} (h : Tab w t g cap (.pointer (some ⟨q, 0, none⟩))) (hv : w.cell? ⟨q, 1, none⟩ = some (.complex .f64 4611686018427387904 4611686018427387904)) :
    Calls Try.prog 17 #[.pointer (some ⟨t, 0, none⟩), .int .i64 1] w fun e w' => e = .returned (.tuple #[.complex .f64 4611686018427387904 4611686018427387904, .bool true, .int .i64 0]) ∧ w = w' := by
  have c1 := there h
  have c2 := at_some h hv
  have g1 := zm
  clear h hv
  go_enter Try.func17, Try.ntmps17
  go_wp2_with (first | (go_at_call 21; (with_reducible refine c1.mono ?_); rintro e w' ⟨rfl, rfl⟩) | (go_at_call 23; (with_reducible refine c2.mono ?_); rintro e w' ⟨rfl, rfl⟩))
  go_ret3
  exact ⟨rfl, rfl⟩

theorem get {w : World} {b t g cap q : Nat} {k : Nat → Int} {s p : Nat → Value} (h : RollAt w b k s p) (hk : k 1 = 2) (hs : s 1 = .int .i64 3) (hp : p 1 = .pointer (some ⟨t, 0, none⟩)) (hT : Tab w t g cap (.pointer (some ⟨q, 0, none⟩)))
    (hv : w.cell? ⟨q, 1, none⟩ = some (.complex .f64 4611686018427387904 4611686018427387904)) (hq : q < w.heap.size) :
    Calls Try.prog 10 #[.pointer (some ⟨b, 0, none⟩), .int .i64 1, .int .i64 1] w fun e w' => e = .returned (.tuple #[.complex .f64 4611686018427387904 4611686018427387904, .bool true, .int .i64 0]) ∧ Below w.heap.size w w' := by
  have c1 : Calls Try.prog 13 #[.pointer (some ⟨b, 0, none⟩), .int .i64 1] w fun e w' => e = .returned (.tuple #[.agg #[.int .i64 (k 1), .int .i64 3], .int .i64 0]) ∧ Below w.heap.size w w' := entry_yes h 1 (by omega) (by omega) 3 hs
  rw [hk] at c1
  have L := h.lt
  have P0 : w.cell? ⟨b, 17, none⟩ = some (p 1) := h.ptr 1 (by omega)
  rw [hp] at P0
  have cg := fun (W : World) (hB : Below w.heap.size w W) => table_get (tab_below hT hB) ((hB.cell (p := ⟨q, 1, none⟩) hq).trans hv)
  clear h hk hs hp hT hv
  go_enter Try.func10, Try.ntmps10
  go_wp2_with (first | (go_at_call 13; (with_reducible refine c1.mono ?_); rintro e w1 ⟨rfl, hb⟩; have P1 : w1.cell? ⟨b, 17, none⟩ = some (.pointer (some ⟨t, 0, none⟩)) := (hb.cell (p := ⟨b, 17, none⟩) L).trans P0; have L1 : b < w1.heap.size := Nat.lt_of_lt_of_le L hb.size) | (go_at_call 17; refine (cg _ (hb.trans ((Below.refl _ _).alloc hb.size _))).mono ?_; rintro e w' ⟨rfl, rfl⟩))
  go_ret3
  exact ⟨rfl, hb.trans ((Below.refl _ _).alloc hb.size _)⟩

/-- A snapshot of volume 0 in a roll that has it alone. -/
theorem snap_yes {w : World} {b : Nat} {k : Nat → Int} {s p : Nat → Value} (h : RollAt w b k s p) (hk : k 0 = 1) (hk1 : k 1 = 0) (hs : s 0 = .int .i64 3) {v : Option Addr} (hp : p 0 = .pointer v) :
    Calls Try.prog 7 #[.pointer (some ⟨b, 0, none⟩), .int .i64 0] w fun e w' => e = .returned (.tuple #[.int .i64 1, .int .i64 0]) ∧ Ra.Left w b (upd k 1 2) (upd s 1 (.int .i64 3)) (upd p 1 (.pointer v)) w' := by
  have c1 : Calls Try.prog 13 #[.pointer (some ⟨b, 0, none⟩), .int .i64 0] w fun e w' => e = .returned (.tuple #[.agg #[.int .i64 (k 0), .int .i64 3], .int .i64 0]) ∧ Below w.heap.size w w' := entry_yes h 0 (by omega) (by omega) 3 hs
  rw [hk] at c1
  have c2 := fun (W : World) (hB : Below w.heap.size w W) => (spare_yes (h.below hB) 1 ⟨by omega, hk1, fun j hj => by (obtain rfl : j = 0 := (by omega)); omega⟩ : Calls Try.prog 12 #[.pointer (some ⟨b, 0, none⟩)] W fun e w' => e = .returned (.tuple #[.int .i64 1, .int .i64 0]) ∧ Below W.heap.size W w')
  have L := h.lt
  have H := Lib.hid h
  have P0 : w.cell? ⟨b, 16, none⟩ = some (p 0) := h.ptr 0 (by omega)
  rw [hp] at P0
  have P1 : w.cell? ⟨b, 17, none⟩ = some (p 1) := h.ptr 1 (by omega)
  have K1 : w.cell? ⟨b, 2, none⟩ = some (.int .i64 (k 1)) := h.kind 1 (by omega)
  have S1 : w.cell? ⟨b, 3, none⟩ = some (s 1) := h.size 1 (by omega)
  have F1 := h.free 17 (by omega)
  have F2 := h.free 2 (by omega)
  have F3 := h.free 3 (by omega)
  clear h hk hs hk1 hp
  go_enter Try.func7, Try.ntmps7
  go_wp2_with (first | (go_at_call 13; (with_reducible refine c1.mono ?_); rintro e w1 ⟨rfl, hb⟩) | (go_at_call 12; refine (c2 _ (hb.trans ((Below.refl _ _).alloc hb.size _))).mono ?_; rintro e w2 ⟨rfl, hb2⟩))
  have hbb : Below w.heap.size w w2 := (hb.trans ((Below.refl _ _).alloc hb.size _)).trans (hb2.mono (by have := hb.size; simp; omega))
  have Q0 : w2.cell? ⟨b, 16, none⟩ = some (.pointer v) := (hbb.cell (p := ⟨b, 16, none⟩) L).trans P0
  have Q1 : w2.cell? ⟨b, 17, none⟩ = some (p 1) := (hbb.cell (p := ⟨b, 17, none⟩) L).trans P1
  have Q2 : w2.cell? ⟨b, 2, none⟩ = some (.int .i64 (k 1)) := (hbb.cell (p := ⟨b, 2, none⟩) L).trans K1
  have Q3 : w2.cell? ⟨b, 3, none⟩ = some (s 1) := (hbb.cell (p := ⟨b, 3, none⟩) L).trans S1
  have G1 : w2.frozen? ⟨b, 17, none⟩ = false := (hbb.frozen (p := ⟨b, 17, none⟩) L).trans F1
  have G2 : w2.frozen? ⟨b, 2, none⟩ = false := (hbb.frozen (p := ⟨b, 2, none⟩) L).trans F2
  have G3 : w2.frozen? ⟨b, 3, none⟩ = false := (hbb.frozen (p := ⟨b, 3, none⟩) L).trans F3
  have N1 : w2.cell? ⟨w1.heap.size, 1, none⟩ = some (.int .i64 3) := (hb2.cell (p := ⟨w1.heap.size, 1, none⟩) (by simp)).trans (by simp)
  have X := Lib.hid (left_write0 H.out hbb 1 (by omega) 2 (.int .i64 3) (.pointer v))
  clear P0 P1 K1 S1 F1 F2 F3 hb hbb c1 c2
  go_region
  all_goals go_wp2
  all_goals go_ret2
  all_goals exact ⟨rfl, X.out⟩

/-- A roll of a volume of three blocks, of which block 1 has a place, and its snapshot. -/
theorem grown_tab {w w' : World} {b t c cap q : Nat} (hT : Tab w t c cap (.pointer (some ⟨q, 0, none⟩))) (hv : w.cell? ⟨q, 1, none⟩ = some (.complex .f64 4611686018427387904 4611686018427387904)) (h1 : t ≠ b) (h2 : c ≠ b) (h3 : q ≠ b) (hg : w.grownBy w' (some b)) :
    Tab w' t c cap (.pointer (some ⟨q, 0, none⟩)) ∧ w'.cell? ⟨q, 1, none⟩ = some (.complex .f64 4611686018427387904 4611686018427387904) :=
  ⟨⟨Nat.lt_of_lt_of_le hT.tl hg.size, Nat.lt_of_lt_of_le hT.gl hg.size, hg.cell hT.size (by simpa using h1), hg.cell hT.row (by simpa using h1), hg.cell hT.page (by simpa using h2)⟩, hg.cell hv (by simpa using h3)⟩

/-- The roll with one volume, just made, and its table. -/
def Born (w : World) (b : Nat) (k : Nat → Int) (s p : Nat → Value) (e : Ending) (w' : World) : Prop := ∃ t g : Nat, e = .returned (.tuple #[.int .i64 0, .int .i64 0]) ∧ RollAt w' b (upd k 0 1) (upd s 0 (.int .i64 3)) (upd p 0 (.pointer (some ⟨t, 0, none⟩))) ∧ Tab w' t g 1 (.pointer none) ∧ w.grownBy w' (some b)

theorem born {w : World} {b : Nat} {k : Nat → Int} {s p : Nat → Value} (h : RollAt w b k s p) (hk : k 0 = 0) : Calls Try.prog 6 #[.pointer (some ⟨b, 0, none⟩), .int .i64 3] w (Born w b k s p) := by
  refine (create_yes h 0 ⟨by omega, hk, fun j hj => by omega⟩ 3 (by omega) (by omega)).mono ?_
  rintro e w' ⟨rfl, hL, hB, hg⟩
  have L := h.lt
  refine ⟨w.heap.size + 1, w.heap.size, rfl, hL.1, ?_, hL.2⟩
  have m0 : (made w 3).cell? ⟨w.heap.size + 1, 0, none⟩ = some (.int .i64 3) := by simp [made]
  have m1 : (made w 3).cell? ⟨w.heap.size + 1, 1, none⟩ = some (.slice (some ⟨w.heap.size, 0, none⟩) 1 1) := by simp [made]
  have m2 : (made w 3).cell? ⟨w.heap.size, 0, none⟩ = some (.pointer none) := by simp [made]
  have ms : (made w 3).heap.size = w.heap.size + 2 := by simp [made]
  have := hg.size
  exact ⟨by omega, by omega, hg.cell m0 (by simp; omega), hg.cell m1 (by simp; omega), hg.cell m2 (by simp; omega)⟩

theorem awake (w : World) : Calls Try.prog 5 #[] w fun e w' => e = .returned (.bool true) ∧ Below w.heap.size w w' := by
  have zq := zz
  go_enter Try.func5, Try.ntmps5
  go_wp2_with fail
  refine (roll_new w).mono ?_
  rintro e w1 ⟨rfl, hb1, hz1, R1⟩
  go_wp2_with fail
  refine (born R1 rfl).mono ?_
  rintro e w2 ⟨t, g, rfl, R2, T2, G2⟩
  have b2 := hb1.grown G2 (by omega) (fun k hk => by cases hk; exact Nat.le_refl _)
  go_wp2_with fail
  refine (set_yes R2 rfl rfl rfl T2).mono ?_
  rintro e w3 ⟨rfl, t2, c, cap2, q, R3, T3, v3, G3, n1, n2, n3, hq⟩
  have b3 := b2.grown G3 b2.size (fun k hk => by cases hk; exact Nat.le_refl _)
  go_wp2_with fail
  refine (snap_yes R3 rfl rfl rfl rfl).mono ?_
  rintro e w4 ⟨rfl, R4, G4⟩
  have b4 := b3.grown G4 b3.size (fun k hk => by cases hk; exact Nat.le_refl _)
  obtain ⟨T4, v4⟩ := grown_tab T3 v3 n1 n2 n3 G4
  go_wp2_with fail
  refine (get R4 rfl rfl rfl T4 v4 (Nat.lt_of_lt_of_le hq G4.size)).mono ?_
  rintro e w5 ⟨rfl, hb5⟩
  have c6 := set_no (R4.below hb5) rfl rfl 0 0
  have b5 := Lib.hid (b4.trans (hb5.mono b4.size))
  clear R1 R2 R3 R4 T2 T3 T4 v3 v4 hb1 hz1 b2 b3 b4 G2 G3 G4
  go_wp2_with (go_at_call 9; (with_reducible refine c6.mono ?_); rintro e w6 ⟨rfl, hb6⟩)
  go_ret
  exact ⟨rfl, b5.out.trans (hb6.mono b5.out.size)⟩

end Go.Proofs.Ytkoiimldfnbdiaa.Rc
