/- (*Shell).Do where no pool is open; a crash; an empty device opened. -/
import Derived.Test.YtjohhjdicbeojaaGreatDoorWb
import Derived.Test.YtjohhjdicbeojaaGreatDoorVx
namespace Go.Proofs.YtjohhjdicbeojaaGreatDoor.Wc
open Go.RowKit Go.Proofs.YtjohhjdicbeojaaGreatDoor.Ra Go.Proofs.YtjohhjdicbeojaaGreatDoor.Rf Go.Proofs.YtjohhjdicbeojaaGreatDoor.Rj Go.Proofs.YtjohhjdicbeojaaGreatDoor.Rl Go.Proofs.YtjohhjdicbeojaaGreatDoor.Rm Go.Proofs.YtjohhjdicbeojaaGreatDoor.Sq Go.Proofs.YtjohhjdicbeojaaGreatDoor.Ss Go.Proofs.YtjohhjdicbeojaaGreatDoor.St Go.Proofs.YtjohhjdicbeojaaGreatDoor.Su Go.Proofs.YtjohhjdicbeojaaGreatDoor.Va Go.Proofs.YtjohhjdicbeojaaGreatDoor.Vb Go.Proofs.YtjohhjdicbeojaaGreatDoor.Vg Go.Proofs.YtjohhjdicbeojaaGreatDoor.Vh Go.Proofs.YtjohhjdicbeojaaGreatDoor.Vi Go.Proofs.YtjohhjdicbeojaaGreatDoor.Vl Go.Proofs.YtjohhjdicbeojaaGreatDoor.Vo Go.Proofs.YtjohhjdicbeojaaGreatDoor.Vp Go.Proofs.YtjohhjdicbeojaaGreatDoor.Vq Go.Proofs.YtjohhjdicbeojaaGreatDoor.Vw Go.Proofs.YtjohhjdicbeojaaGreatDoor.Vx Go.Proofs.YtjohhjdicbeojaaGreatDoor.Wb
open Go.Proofs.YtjohhjdicbeojaaGreatDoor.KSb (Env itoa_c)
open Go.Proofs.YtjohhjdicbeojaaGreatDoor.KSu (mkB I64)
set_option maxRecDepth 8000

/-- Line takes the act. -/
def LnOk (v : Value) (w : World) : Prop := ∀ W, Below w.heap.size w W → Calls Tryz.prog 7 #[v] W fun e w' => ∃ x, (e = .returned (.tuple #[.string x, .int .i64 0])) ∧ Below W.heap.size W w'
/-- Line takes it not. -/
def LnNo (v : Value) (w : World) : Prop := ∀ W, Below w.heap.size w W → Calls Tryz.prog 7 #[v] W fun e w' => e = .returned (.tuple #[.string ⟨#[]⟩, .int .i64 1]) ∧ Below W.heap.size W w'
theorem LnOk.later {v : Value} {w w1 : World} (h : LnOk v w) (hb : Below w.heap.size w w1) : LnOk v w1 := fun W hW => h W (hb.trans (hW.mono hb.size))
theorem LnNo.later {v : Value} {w w1 : World} (h : LnNo v w) (hb : Below w.heap.size w w1) : LnNo v w1 := fun W hW => h W (hb.trans (hW.mono hb.size))
structure ActG (w : World) (M : Nat) (k n rk v b s : Int) (dv kv : Value) : Prop where
  blk : w.heap[M]? = some (.cells #[.int .i64 k, .int .i64 n, .int .i64 rk, .int .i64 v, .int .i64 b, .int .i64 s, dv, kv] 34 (0, 0))
theorem ActG.below {w w' : World} {M : Nat} {k n rk v b s : Int} {dv kv : Value} (h : ActG w M k n rk v b s dv kv) (hb : Below w.heap.size w w') : ActG w' M k n rk v b s dv kv := ⟨blk_below h.blk hb (lt_of_block h.blk)⟩
theorem ActG.cells {w : World} {M : Nat} {k n rk v b s : Int} {dv kv : Value} (h : ActG w M k n rk v b s dv kv) : w.cell? ⟨M, 0, none⟩ = some (.int .i64 k) ∧ w.cell? ⟨M, 1, none⟩ = some (.int .i64 n) ∧ w.cell? ⟨M, 2, none⟩ = some (.int .i64 rk) ∧ w.cell? ⟨M, 3, none⟩ = some (.int .i64 v) ∧ w.cell? ⟨M, 4, none⟩ = some (.int .i64 b) ∧ w.cell? ⟨M, 5, none⟩ = some (.int .i64 s) ∧ w.cell? ⟨M, 6, none⟩ = some dv ∧ w.cell? ⟨M, 7, none⟩ = some kv :=
  ⟨blk_cell h.blk 0, blk_cell h.blk 1, blk_cell h.blk 2, blk_cell h.blk 3, blk_cell h.blk 4, blk_cell h.blk 5, blk_cell h.blk 6, blk_cell h.blk 7⟩

/-- The reply that there is no pool. -/
theorem reply_one (rk : Int) (hr : rk = 1 ∨ rk = 3) (w : World) (hE : Env w) : Calls Tryz.prog 24 #[.int .i64 rk, .agg #[.int .i64 0, .int .i64 1, .int .i64 0, .slice none 0 0, .slice none 0 0]] w fun e w' => e = .returned (.string (errL 1)) ∧ Below w.heap.size w w' := by
  have hbb : Below w.heap.size w ((w.alloc (.cells #[.int .i64 0, .int .i64 1, .int .i64 0, .slice none 0 0, .slice none 0 0] 67)).alloc (.cells #[.iface 3 (.int .i64 0)] 20)) := ((Below.refl _ _).alloc (Nat.le_refl _) _).alloc (by rw [sz_alloc]; exact Nat.le_succ _) _
  have KA := Lib.hid (answer_err 1 (.slice (some ⟨w.heap.size + 1, 0, none⟩) 1 1) (by decide) (by decide) (by decide) _ (hE.below hbb))
  have HL := Lib.hid hbb
  clear hbb hE
  rcases hr with rfl | rfl
  all_goals (
    go_enter Tryz.func24, Tryz.ntmps24
    go_wp2
    go_loopg [5, 7, 25] 1 (fun gg s5 _ s25 wr => gg = 1 ∧ s5 = .slice (some ⟨w.heap.size + 1, 0, none⟩) 1 1 ∧ s25 = .int .i64 0 ∧ wr = ((w.alloc (.cells #[.int .i64 0, .int .i64 1, .int .i64 0, .slice none 0 0, .slice none 0 0] 67)).alloc (.cells #[.iface 3 (.int .i64 0)] 20)))
    case atStart => exact ⟨rfl, rfl, rfl, rfl⟩
    case round =>
      obtain ⟨_, rfl, rfl, rfl⟩ := hrel
      go_wp2_with (go_at_call 18; (with_reducible refine KA.out.mono ?_); rintro e w1 ⟨rfl, hb1⟩)
      go_ret
      exact ⟨rfl, HL.out.trans (hb1.mono HL.out.size)⟩)
theorem reply_none (rk : Int) (h1 : ¬ rk = 1) (h3 : ¬ rk = 3) (h4 : ¬ rk = 4) (w : World) (hE : Env w) : Calls Tryz.prog 24 #[.int .i64 rk, .agg #[.int .i64 0, .int .i64 1, .int .i64 0, .slice none 0 0, .slice none 0 0]] w fun e w' => e = .returned (.string (errL 1)) ∧ Below w.heap.size w w' := by
  have hbb : Below w.heap.size w (w.alloc (.cells #[.int .i64 0, .int .i64 1, .int .i64 0, .slice none 0 0, .slice none 0 0] 67)) := (Below.refl _ _).alloc (Nat.le_refl _) _
  have KA := Lib.hid (answer_err 1 (.slice none 0 0) (by decide) (by decide) (by decide) _ (hE.below hbb))
  have HL := Lib.hid hbb
  have g1 : (rk == 1) = false := by simp [h1]
  have g3 : (rk == 3) = false := by simp [h3]
  have g4 : (rk == 4) = false := by simp [h4]
  clear hbb hE
  go_enter Tryz.func24, Tryz.ntmps24
  go_wp2
  go_loopg [5, 7, 25] 1 (fun gg s5 _ s25 wr => gg = 1 ∧ s5 = .slice none 0 0 ∧ s25 = .int .i64 0 ∧ wr = w.alloc (.cells #[.int .i64 0, .int .i64 1, .int .i64 0, .slice none 0 0, .slice none 0 0] 67))
  case atStart => exact ⟨rfl, rfl, rfl, rfl⟩
  case round =>
    obtain ⟨_, rfl, rfl, rfl⟩ := hrel
    go_wp2_with (go_at_call 18; (with_reducible refine KA.out.mono ?_); rintro e w1 ⟨rfl, hb1⟩)
    go_ret
    exact ⟨rfl, HL.out.trans (hb1.mono HL.out.size)⟩
theorem reply_nil (rk : Int) (w : World) (hE : Env w) : Calls Tryz.prog 24 #[.int .i64 rk, .agg #[.int .i64 0, .int .i64 1, .int .i64 0, .slice none 0 0, .slice none 0 0]] w fun e w' => e = .returned (.string (errL 1)) ∧ Below w.heap.size w w' := by
  by_cases h1 : rk = 1
  · exact reply_one rk (.inl h1) w hE
  by_cases h3 : rk = 3
  · exact reply_one rk (.inr h3) w hE
  by_cases h4 : rk = 4
  · subst h4
    exact reply_bad 0 1 (by decide) (by decide) (by decide) w hE
  exact reply_none rk h1 h3 h4 w hE

set_option maxHeartbeats 8000000 in
/-- An act that has no line. -/
theorem cdo_bad (k n rk v b s : Int) (p1 p3 : Option Addr) (l1 c1 l3 c3 : Nat) {SH D : Nat} {w : World} {pv : Value} (hs : ShAt w SH D pv) (hE : Env w) (hL : LnNo (.agg #[.int .i64 k, .int .i64 n, .int .i64 rk, .int .i64 v, .int .i64 b, .int .i64 s, .slice p1 l1 c1, .slice p3 l3 c3]) w) :
    Calls Tryz.prog 8 #[.pointer (some ⟨SH, 0, none⟩), .agg #[.int .i64 k, .int .i64 n, .int .i64 rk, .int .i64 v, .int .i64 b, .int .i64 s, .slice p1 l1 c1, .slice p3 l3 c3]] w fun e w' => e = .returned (.string (errL 1)) ∧ Below w.heap.size w w' := by
  have hbb : Below w.heap.size w (w.alloc (.cells #[.int .i64 k, .int .i64 n, .int .i64 rk, .int .i64 v, .int .i64 b, .int .i64 s, .slice p1 l1 c1, .slice p3 l3 c3] 34)) := (Below.refl _ _).alloc (Nat.le_refl _) _
  have HA0 := Lib.hid (ActG.mk (blk_new w #[.int .i64 k, .int .i64 n, .int .i64 rk, .int .i64 v, .int .i64 b, .int .i64 s, .slice p1 l1 c1, .slice p3 l3 c3] 34))
  have HS0 := Lib.hid (hs.below hbb)
  have HB0 := Lib.hid hbb
  have HE := Lib.hid hE
  have kl := hL.later hbb
  unfold LnNo at kl
  have KL := Lib.hid kl
  clear kl
  have KA := Lib.hid (fun (W : World) (hb : Below w.heap.size w W) => answer_err 1 (.slice none 0 0) (by decide) (by decide) (by decide) W (hE.below hb))
  clear hs hbb hE hL
  go_enter Tryz.func8, Tryz.ntmps8
  go_upto_region 1 with fail
  generalize (w.alloc (.cells #[.int .i64 k, .int .i64 n, .int .i64 rk, .int .i64 v, .int .i64 b, .int .i64 s, .slice p1 l1 c1, .slice p3 l3 c3] 34)) = w0 at *
  obtain ⟨b0, b1, b2, b3, b4, b5, b6, b7⟩ := HA0.out.cells
  go_upto_region 5 with (go_at_call 7; (with_reducible refine (KL.out _ (Below.refl _ _)).mono ?_); rintro e w1 ⟨rfl, hb1⟩; have HA1 := Lib.hid (HA0.out.below hb1); have HS1 := Lib.hid (HS0.out.below hb1); have HB1 := Lib.hid (HB0.out.trans (hb1.mono HB0.out.size)); clear hb1; clear b0 b1 b2 b3 b4 b5 b6 b7; obtain ⟨b0, b1, b2, b3, b4, b5, b6, b7⟩ := HA1.out.cells; obtain ⟨u0, u1, f1⟩ := HS1.out.cells)
  go_wp2_with (go_at_call 18; (with_reducible refine (KA.out _ HB1.out).mono ?_); rintro e w2 ⟨rfl, hb2⟩)
  go_ret
  exact ⟨rfl, HB1.out.trans (hb2.mono HB1.out.size)⟩

set_option maxHeartbeats 8000000 in
/-- A request, no pool. -/
theorem cdo_req (rk v b s : Int) (p1 : Option Addr) (l1 c1 : Nat) {SH D : Nat} {w : World} (hs : ShAt w SH D (.pointer none)) (hE : Env w) (hL : LnOk (.agg #[.int .i64 5, .int .i64 0, .int .i64 rk, .int .i64 v, .int .i64 b, .int .i64 s, .slice p1 l1 c1, .slice none 0 0]) w) :
    Calls Tryz.prog 8 #[.pointer (some ⟨SH, 0, none⟩), .agg #[.int .i64 5, .int .i64 0, .int .i64 rk, .int .i64 v, .int .i64 b, .int .i64 s, .slice p1 l1 c1, .slice none 0 0]] w fun e w' => e = .returned (.string (errL 1)) ∧ Below w.heap.size w w' := by
  have hbb : Below w.heap.size w (w.alloc (.cells #[.int .i64 5, .int .i64 0, .int .i64 rk, .int .i64 v, .int .i64 b, .int .i64 s, .slice p1 l1 c1, .slice none 0 0] 34)) := (Below.refl _ _).alloc (Nat.le_refl _) _
  have HA0 := Lib.hid (ActG.mk (blk_new w #[.int .i64 5, .int .i64 0, .int .i64 rk, .int .i64 v, .int .i64 b, .int .i64 s, .slice p1 l1 c1, .slice none 0 0] 34))
  have HS0 := Lib.hid (hs.below hbb)
  have HB0 := Lib.hid hbb
  have HE := Lib.hid hE
  have kl := hL.later hbb
  unfold LnOk at kl
  have KL := Lib.hid kl
  clear kl
  have KD := Lib.hid (fun (W : World) => do_nil rk v b s (.slice p1 l1 c1) W)
  have KR := Lib.hid (fun (W : World) (hb : Below w.heap.size w W) => reply_nil rk W (hE.below hb))
  clear hs hbb hE hL
  go_enter Tryz.func8, Tryz.ntmps8
  go_upto_region 1 with fail
  generalize (w.alloc (.cells #[.int .i64 5, .int .i64 0, .int .i64 rk, .int .i64 v, .int .i64 b, .int .i64 s, .slice p1 l1 c1, .slice none 0 0] 34)) = w0 at *
  obtain ⟨b0, b1, b2, b3, b4, b5, b6, b7⟩ := HA0.out.cells
  go_upto_region 24 with (go_at_call 7; (with_reducible refine (KL.out _ (Below.refl _ _)).mono ?_); rintro e w1 ⟨sx, rfl, hb1⟩; have HA1 := Lib.hid (HA0.out.below hb1); have HS1 := Lib.hid (HS0.out.below hb1); have HB1 := Lib.hid (HB0.out.trans (hb1.mono HB0.out.size)); clear hb1; clear b0 b1 b2 b3 b4 b5 b6 b7; obtain ⟨b0, b1, b2, b3, b4, b5, b6, b7⟩ := HA1.out.cells; obtain ⟨u0, u1, f1⟩ := HS1.out.cells)
  have HBD := Lib.hid HB1.out.drew
  have HAD : Hid (ActG w1.drew w.heap.size 5 0 rk v b s (.slice p1 l1 c1) (.slice none 0 0)) := Lib.hid ⟨HA1.out.blk⟩
  go_region_with (first
    | (go_at_call 25; (with_reducible refine (KD.out _).mono ?_); rintro e w2 ⟨rfl, hb2⟩; have HB2 := Lib.hid (HBD.out.trans (hb2.mono HBD.out.size)); have HA2 := Lib.hid (HAD.out.below hb2); clear hb2; have g0 : w2.cell? ⟨w.heap.size, 2, none⟩ = some (.int .i64 rk) := HA2.out.cells.2.2.1)
    | (go_at_call 24; (with_reducible refine (KR.out _ HB2.out).mono ?_); rintro e w3 ⟨rfl, hb3⟩; have HB3 := Lib.hid (HB2.out.trans (hb3.mono HB2.out.size)); clear hb3))
  all_goals (
    go_wp2
    go_ret
    exact ⟨rfl, HB3.out⟩)

set_option maxHeartbeats 8000000 in
/-- A request for later, no pool. -/
theorem cdo_later (rk v b s : Int) (p1 : Option Addr) (l1 c1 : Nat) {SH D : Nat} {w : World} (hs : ShAt w SH D (.pointer none)) (hE : Env w) (hL : LnOk (.agg #[.int .i64 3, .int .i64 0, .int .i64 rk, .int .i64 v, .int .i64 b, .int .i64 s, .slice p1 l1 c1, .slice none 0 0]) w) :
    Calls Tryz.prog 8 #[.pointer (some ⟨SH, 0, none⟩), .agg #[.int .i64 3, .int .i64 0, .int .i64 rk, .int .i64 v, .int .i64 b, .int .i64 s, .slice p1 l1 c1, .slice none 0 0]] w fun e w' => e = .returned (.string (errL 1)) ∧ Below w.heap.size w w' := by
  have hbb : Below w.heap.size w (w.alloc (.cells #[.int .i64 3, .int .i64 0, .int .i64 rk, .int .i64 v, .int .i64 b, .int .i64 s, .slice p1 l1 c1, .slice none 0 0] 34)) := (Below.refl _ _).alloc (Nat.le_refl _) _
  have HA0 := Lib.hid (ActG.mk (blk_new w #[.int .i64 3, .int .i64 0, .int .i64 rk, .int .i64 v, .int .i64 b, .int .i64 s, .slice p1 l1 c1, .slice none 0 0] 34))
  have HS0 := Lib.hid (hs.below hbb)
  have HB0 := Lib.hid hbb
  have HE := Lib.hid hE
  have kl := hL.later hbb
  unfold LnOk at kl
  have KL := Lib.hid kl
  clear kl
  have KU := Lib.hid (fun (W : World) => psubmit_nil rk v b s (.slice p1 l1 c1) W)
  have KA := Lib.hid (fun (W : World) (x : Value) (hb : Below w.heap.size w W) => answer_err 1 x (by decide) (by decide) (by decide) W (hE.below hb))
  clear hs hbb hE hL
  go_enter Tryz.func8, Tryz.ntmps8
  go_upto_region 1 with fail
  generalize (w.alloc (.cells #[.int .i64 3, .int .i64 0, .int .i64 rk, .int .i64 v, .int .i64 b, .int .i64 s, .slice p1 l1 c1, .slice none 0 0] 34)) = w0 at *
  obtain ⟨b0, b1, b2, b3, b4, b5, b6, b7⟩ := HA0.out.cells
  go_upto_region 21 with (go_at_call 7; (with_reducible refine (KL.out _ (Below.refl _ _)).mono ?_); rintro e w1 ⟨sx, rfl, hb1⟩; have HA1 := Lib.hid (HA0.out.below hb1); have HS1 := Lib.hid (HS0.out.below hb1); have HB1 := Lib.hid (HB0.out.trans (hb1.mono HB0.out.size)); clear hb1; clear b0 b1 b2 b3 b4 b5 b6 b7; obtain ⟨b0, b1, b2, b3, b4, b5, b6, b7⟩ := HA1.out.cells; obtain ⟨u0, u1, f1⟩ := HS1.out.cells)
  have HBD := Lib.hid HB1.out.drew
  go_region_with (go_at_call 23; (with_reducible refine (KU.out _).mono ?_); rintro e w2 ⟨rfl, hb2⟩; have HB2 := Lib.hid (HBD.out.trans (hb2.mono HBD.out.size)); clear hb2)
  all_goals (
    have HB3 := Lib.hid (HB2.out.alloc HB2.out.size (.cells #[.iface 3 (.int .i64 0)] 20))
    go_wp2_with (go_at_call 18; (refine (KA.out _ _ HB3.out).mono ?_); rintro e w4 ⟨rfl, hb4⟩)
    go_ret
    exact ⟨rfl, HB3.out.trans (hb4.mono HB3.out.size)⟩)

set_option maxHeartbeats 8000000 in
/-- A step, no pool. -/
theorem cdo_step (n : Int) {SH D : Nat} {w : World} (hs : ShAt w SH D (.pointer none)) (hE : Env w) (hL : LnOk (.agg #[.int .i64 4, .int .i64 n, .int .i64 0, .int .i64 0, .int .i64 0, .int .i64 0, .slice none 0 0, .slice none 0 0]) w) :
    Calls Tryz.prog 8 #[.pointer (some ⟨SH, 0, none⟩), .agg #[.int .i64 4, .int .i64 n, .int .i64 0, .int .i64 0, .int .i64 0, .int .i64 0, .slice none 0 0, .slice none 0 0]] w fun e w' => e = .returned (.string (errL 1)) ∧ Below w.heap.size w w' := by
  have hbb : Below w.heap.size w (w.alloc (.cells #[.int .i64 4, .int .i64 n, .int .i64 0, .int .i64 0, .int .i64 0, .int .i64 0, .slice none 0 0, .slice none 0 0] 34)) := (Below.refl _ _).alloc (Nat.le_refl _) _
  have HA0 := Lib.hid (ActG.mk (blk_new w #[.int .i64 4, .int .i64 n, .int .i64 0, .int .i64 0, .int .i64 0, .int .i64 0, .slice none 0 0, .slice none 0 0] 34))
  have HS0 := Lib.hid (hs.below hbb)
  have HB0 := Lib.hid hbb
  have HE := Lib.hid hE
  have kl := hL.later hbb
  unfold LnOk at kl
  have KL := Lib.hid kl
  clear kl
  have KS := Lib.hid (fun (W : World) => step_nil n W)
  have KA := Lib.hid (fun (W : World) (hb : Below w.heap.size w W) => answer_err 1 (.slice none 0 0) (by decide) (by decide) (by decide) W (hE.below hb))
  clear hs hbb hE hL
  go_enter Tryz.func8, Tryz.ntmps8
  go_upto_region 1 with fail
  generalize (w.alloc (.cells #[.int .i64 4, .int .i64 n, .int .i64 0, .int .i64 0, .int .i64 0, .int .i64 0, .slice none 0 0, .slice none 0 0] 34)) = w0 at *
  obtain ⟨b0, b1, b2, b3, b4, b5, b6, b7⟩ := HA0.out.cells
  go_upto_region 25 with (go_at_call 7; (with_reducible refine (KL.out _ (Below.refl _ _)).mono ?_); rintro e w1 ⟨sx, rfl, hb1⟩; have HA1 := Lib.hid (HA0.out.below hb1); have HS1 := Lib.hid (HS0.out.below hb1); have HB1 := Lib.hid (HB0.out.trans (hb1.mono HB0.out.size)); clear hb1; clear b0 b1 b2 b3 b4 b5 b6 b7; obtain ⟨b0, b1, b2, b3, b4, b5, b6, b7⟩ := HA1.out.cells; obtain ⟨u0, u1, f1⟩ := HS1.out.cells)
  have hw1 : w.heap.size ≤ w1.heap.size := HB1.out.size
  have HBD := Lib.hid HB1.out.drew
  have HBA : Hid (Below w.heap.size w (w1.alloc (.cells #[.int .i64 0, .int .i64 0, .int .i64 0, .slice none 0 0, .slice none 0 0] 67)).drew) := Lib.hid (HB1.out.alloc hw1 _).drew
  have HRA : Hid ((w1.alloc (.cells #[.int .i64 0, .int .i64 0, .int .i64 0, .slice none 0 0, .slice none 0 0] 67)).drew.heap[w1.heap.size]? = some (.cells #[.int .i64 0, .int .i64 0, .int .i64 0, .slice none 0 0, .slice none 0 0] 67 (0, 0))) := Lib.hid (blk_new w1 #[.int .i64 0, .int .i64 0, .int .i64 0, .slice none 0 0, .slice none 0 0] 67)
  have hLm := lt_of_block HA1.out.blk
  have hLs := lt_of_block HS1.out.blk
  go_cut [11, 12] from 114 to 123 (fun s11 s12 wx => s12 = .bool true ∧ ∃ X, s11 = .pointer (some ⟨X, 0, none⟩) ∧ Hid (RepAt wx X 0 1 0 (.slice none 0 0) (.slice none 0 0) ∧ Below w.heap.size w wx))
  case first =>
    go_region_with (first
      | (go_at_call 26; (refine (KS.out w1.drew).mono ?_); rintro e w2 ⟨rfl, hb2⟩; have HB2 := Lib.hid (HBD.out.trans (hb2.mono HBD.out.size)); clear hb2)
      | (go_at_call 26; (refine (KS.out (w1.alloc (.cells #[.int .i64 0, .int .i64 0, .int .i64 0, .slice none 0 0, .slice none 0 0] 67)).drew).mono ?_); rintro e w2 ⟨rfl, hb2⟩; have HB2 := Lib.hid (HBA.out.trans (hb2.mono HBA.out.size)); have HR2 := Lib.hid (blk_below HRA.out hb2 (lt_of_block HRA.out)); have s0 := blk_cell HR2.out 0; have s1 := blk_cell HR2.out 1; have s2 := blk_cell HR2.out 2; have s3 := blk_cell HR2.out 3; have s4 := blk_cell HR2.out 4; have t0 := blk_free HR2.out 0; have t1 := blk_free HR2.out 1; have t2 := blk_free HR2.out 2; have t3 := blk_free HR2.out 3; have t4 := blk_free HR2.out 4; clear hb2))
    all_goals (
      first
        | (have HQ : Hid (RepAt (w2.alloc (.cells #[.int .i64 0, .int .i64 1, .int .i64 0, .slice none 0 0, .slice none 0 0] 67)) w2.heap.size 0 1 0 (.slice none 0 0) (.slice none 0 0) ∧ Below w.heap.size w (w2.alloc (.cells #[.int .i64 0, .int .i64 1, .int .i64 0, .slice none 0 0, .slice none 0 0] 67))) := Lib.hid ⟨⟨blk_new _ _ _⟩, HB2.out.alloc HB2.out.size _⟩
           go_wp2_with fail
           go_meet
           case rel => exact ⟨rfl, _, rfl, HQ⟩)
        | (have HQ : Hid (RepAt (((((w2.setCell ⟨w1.heap.size, 0, none⟩ (.int .i64 0)).setCell ⟨w1.heap.size, 1, none⟩ (.int .i64 1)).setCell ⟨w1.heap.size, 2, none⟩ (.int .i64 0)).setCell ⟨w1.heap.size, 3, none⟩ (.slice none 0 0)).setCell ⟨w1.heap.size, 4, none⟩ (.slice none 0 0)) w1.heap.size 0 1 0 (.slice none 0 0) (.slice none 0 0) ∧ Below w.heap.size w (((((w2.setCell ⟨w1.heap.size, 0, none⟩ (.int .i64 0)).setCell ⟨w1.heap.size, 1, none⟩ (.int .i64 1)).setCell ⟨w1.heap.size, 2, none⟩ (.int .i64 0)).setCell ⟨w1.heap.size, 3, none⟩ (.slice none 0 0)).setCell ⟨w1.heap.size, 4, none⟩ (.slice none 0 0))) := Lib.hid ⟨⟨five HR2.out _ _ _ _ _⟩, below5 HB2.out hw1 _ _ _ _ _⟩
           go_wp2_with fail
           go_meet
           case rel => exact ⟨rfl, _, rfl, HQ⟩))
  case rest =>
    clear b0 b1 b2 b3 b4 b5 b6 b7 u0 u1 f1 hLm hLs hw1
    obtain ⟨rfl, X, rfl, HQ⟩ := hcut
    clear HA0 HS0 HB0 HA1 HS1 HB1 HBD HBA HRA KS
    have e0 : wc.cell? ⟨X, 0, none⟩ = some (.int .i64 0) := blk_cell HQ.out.1.blk 0
    have e1 : wc.cell? ⟨X, 1, none⟩ = some (.int .i64 1) := blk_cell HQ.out.1.blk 1
    go_wp2_with (go_at_call 18; (with_reducible refine (KA.out _ HQ.out.2).mono ?_); rintro e w4 ⟨rfl, hb4⟩)
    go_ret
    exact ⟨rfl, HQ.out.2.trans (hb4.mono HQ.out.2.size)⟩

set_option maxHeartbeats 8000000 in
/-- An empty device is opened. -/
theorem cdo_open {B SH D S N : Nat} {w : World} {lv : Value} {d : Dev} (hs : ShAt w SH D (.pointer none)) (hBS : B ≤ SH) (hd : DevAt B w D S N lv d) (hf : Blank d) (hE : EnvOn B w) (hBw : B ≤ w.heap.size) (hL : LnOk (.agg #[.int .i64 2, .int .i64 0, .int .i64 0, .int .i64 0, .int .i64 0, .int .i64 0, .slice none 0 0, .slice none 0 0]) w) :
    Calls Tryz.prog 8 #[.pointer (some ⟨SH, 0, none⟩), .agg #[.int .i64 2, .int .i64 0, .int .i64 0, .int .i64 0, .int .i64 0, .int .i64 0, .slice none 0 0, .slice none 0 0]] w fun e w' => (e = .returned (.string (errL 11))) ∧ ShAt w' SH D (.pointer none) ∧ Kept [46] B w w' := by
  have hbb : Below w.heap.size w (w.alloc (.cells #[.int .i64 2, .int .i64 0, .int .i64 0, .int .i64 0, .int .i64 0, .int .i64 0, .slice none 0 0, .slice none 0 0] 34)) := (Below.refl _ _).alloc (Nat.le_refl _) _
  have HA0 := Lib.hid (ActG.mk (blk_new w #[.int .i64 2, .int .i64 0, .int .i64 0, .int .i64 0, .int .i64 0, .int .i64 0, .slice none 0 0, .slice none 0 0] 34))
  have HS0 := Lib.hid (hs.below hbb)
  have HB0 := Lib.hid hbb
  have HE := Lib.hid hE
  have kl := hL.later hbb
  unfold LnOk at kl
  have KL := Lib.hid kl
  clear kl
  have HK0 : Hid (Kept [46] B w (w.alloc (.cells #[.int .i64 2, .int .i64 0, .int .i64 0, .int .i64 0, .int .i64 0, .int .i64 0, .slice none 0 0, .slice none 0 0] 34))) := Lib.hid (Kept.of hbb hBw)
  have HBw := Lib.hid hBw
  have HBS := Lib.hid hBS
  have HD0 := Lib.hid (hd.later hbb)
  have KO := Lib.hid (fun (W : World) (hh : DevAt B W D S N lv d) => popen_blank hh hf)
  have KA := Lib.hid (fun (W : World) (hb : Below B w W) => answer_err 11 (.slice none 0 0) (by decide) (by decide) (by decide) W (hE W hb))
  clear hBS hd hf hBw
  clear hs hbb hE hL
  go_enter Tryz.func8, Tryz.ntmps8
  go_upto_region 1 with fail
  generalize (w.alloc (.cells #[.int .i64 2, .int .i64 0, .int .i64 0, .int .i64 0, .int .i64 0, .int .i64 0, .slice none 0 0, .slice none 0 0] 34)) = w0 at *
  obtain ⟨b0, b1, b2, b3, b4, b5, b6, b7⟩ := HA0.out.cells
  go_upto_region 10 with (go_at_call 7; (with_reducible refine (KL.out _ (Below.refl _ _)).mono ?_); rintro e w1 ⟨sx, rfl, hb1⟩; have HA1 := Lib.hid (HA0.out.below hb1); have HS1 := Lib.hid (HS0.out.below hb1); have HB1 := Lib.hid (HB0.out.trans (hb1.mono HB0.out.size)); have HK1 := Lib.hid (HK0.out.step hb1 (Nat.le_trans HBw.out HK0.out.size)); have HD1 := Lib.hid (HD0.out.later hb1); clear hb1; clear b0 b1 b2 b3 b4 b5 b6 b7; obtain ⟨b0, b1, b2, b3, b4, b5, b6, b7⟩ := HA1.out.cells; obtain ⟨u0, u1, f1⟩ := HS1.out.cells)
  go_upto_region 11 with (go_at_call 20; (with_reducible refine (KO.out _ HD1.out).mono ?_); rintro e w2 ⟨rfl, hb2⟩; have HS2 := Lib.hid (HS1.out.below hb2); have HK2 := Lib.hid (HK1.out.step hb2 (Nat.le_trans HBw.out HK1.out.size)); clear hb2; clear u0 u1 f1; obtain ⟨u0, u1, f1⟩ := HS2.out.cells)
  go_upto_region 12 with fail
  have hk := (Kept.refl [46] B w2).set HS2.out.blk HBS.out (by rfl) 1 (.pointer none)
  have HS3 : Hid (ShAt (w2.setCell ⟨SH, 1, none⟩ (.pointer none)) SH D (.pointer none)) := Lib.hid ⟨blk_set HS2.out.blk 1 _⟩
  have HK3 := Lib.hid (HK2.out.trans hk)
  clear hk
  generalize (w2.setCell ⟨SH, 1, none⟩ (.pointer none)) = w3 at *
  go_wp2_with (go_at_call 18; (with_reducible refine (KA.out _ HK3.out.below).mono ?_); rintro e w4 ⟨rfl, hb4⟩)
  go_ret
  exact ⟨rfl, HS3.out.below hb4, HK3.out.step hb4 (Nat.le_trans HBw.out HK3.out.size)⟩

set_option maxHeartbeats 8000000 in
/-- A crash. -/
theorem cdo_crash (p3 : Option Addr) (l3 c3 : Nat) {B SH D S N : Nat} {w : World} {lv pv : Value} {d : Dev} (hs : ShAt w SH D pv) (hBS : B ≤ SH) (hd : DevAt B w D S N lv d) (hl : d.loose = []) (hE : EnvOn B w) (hBw : B ≤ w.heap.size) (hL : LnOk (.agg #[.int .i64 7, .int .i64 0, .int .i64 0, .int .i64 0, .int .i64 0, .int .i64 0, .slice none 0 0, .slice p3 l3 c3]) w) :
    Calls Tryz.prog 8 #[.pointer (some ⟨SH, 0, none⟩), .agg #[.int .i64 7, .int .i64 0, .int .i64 0, .int .i64 0, .int .i64 0, .int .i64 0, .slice none 0 0, .slice p3 l3 c3]] w fun e w' => (e = .returned (.string (okL []))) ∧ ShAt w' SH D (.pointer none) ∧ DevAt B w' D S N (.slice none 0 0) (crashed d) ∧ Kept ([46] ++ tsDev) B w w' := by
  have hbb : Below w.heap.size w (w.alloc (.cells #[.int .i64 7, .int .i64 0, .int .i64 0, .int .i64 0, .int .i64 0, .int .i64 0, .slice none 0 0, .slice p3 l3 c3] 34)) := (Below.refl _ _).alloc (Nat.le_refl _) _
  have HA0 := Lib.hid (ActG.mk (blk_new w #[.int .i64 7, .int .i64 0, .int .i64 0, .int .i64 0, .int .i64 0, .int .i64 0, .slice none 0 0, .slice p3 l3 c3] 34))
  have HS0 := Lib.hid (hs.below hbb)
  have HB0 := Lib.hid hbb
  have HE := Lib.hid hE
  have kl := hL.later hbb
  unfold LnOk at kl
  have KL := Lib.hid kl
  clear kl
  have HK0 : Hid (Kept ([46] ++ tsDev) B w (w.alloc (.cells #[.int .i64 7, .int .i64 0, .int .i64 0, .int .i64 0, .int .i64 0, .int .i64 0, .slice none 0 0, .slice p3 l3 c3] 34))) := Lib.hid (Kept.of hbb hBw)
  have HBw := Lib.hid hBw
  have HBS := Lib.hid hBS
  have HD0 := Lib.hid (hd.later hbb)
  have KC := Lib.hid (fun (W : World) (hh : DevAt B W D S N lv d) => crash_keep hh hl (.slice p3 l3 c3))
  have KA := Lib.hid (fun (W : World) (hb : Below B w W) => answer_ok (.slice none 0 0) [] W (hE W hb) (told_none W) (by decide))
  clear hBS hd hl hBw
  clear hs hbb hE hL
  go_enter Tryz.func8, Tryz.ntmps8
  go_upto_region 1 with fail
  generalize (w.alloc (.cells #[.int .i64 7, .int .i64 0, .int .i64 0, .int .i64 0, .int .i64 0, .int .i64 0, .slice none 0 0, .slice p3 l3 c3] 34)) = w0 at *
  obtain ⟨b0, b1, b2, b3, b4, b5, b6, b7⟩ := HA0.out.cells
  go_upto_region 17 with (go_at_call 7; (with_reducible refine (KL.out _ (Below.refl _ _)).mono ?_); rintro e w1 ⟨sx, rfl, hb1⟩; have HA1 := Lib.hid (HA0.out.below hb1); have HS1 := Lib.hid (HS0.out.below hb1); have HB1 := Lib.hid (HB0.out.trans (hb1.mono HB0.out.size)); have HK1 := Lib.hid (HK0.out.step hb1 (Nat.le_trans HBw.out HK0.out.size)); have HD1 := Lib.hid (HD0.out.later hb1); clear hb1; clear b0 b1 b2 b3 b4 b5 b6 b7; obtain ⟨b0, b1, b2, b3, b4, b5, b6, b7⟩ := HA1.out.cells; obtain ⟨u0, u1, f1⟩ := HS1.out.cells)
  have HDD := Lib.hid (HD1.out.later ((Below.refl _ _).drew))
  have HKD := Lib.hid HK1.out.drew
  have HSD : Hid (ShAt w1.drew SH D pv) := Lib.hid ⟨HS1.out.blk⟩
  go_region_with (go_at_call 22; (refine (KC.out _ HDD.out).mono ?_); rintro e w2 ⟨rfl, hd2, hs2⟩; have HK2 := Lib.hid (kept_of_step hs2); have HL2 := Lib.hid (HKD.out.trans (HK2.out.mono (by rfl))); have HD2 := Lib.hid hd2; have HS2 := Lib.hid (HSD.out.kept HK2.out (by rfl)); clear hd2 hs2)
  all_goals (
    clear u0 u1 f1
    obtain ⟨u0, u1, f1⟩ := HS2.out.cells
    go_upto_region 19 with fail
    have hk := (Kept.refl [46] B w2).set HS2.out.blk HBS.out (by rfl) 1 (.pointer none)
    have HS3 : Hid (ShAt (w2.setCell ⟨SH, 1, none⟩ (.pointer none)) SH D (.pointer none)) := Lib.hid ⟨blk_set HS2.out.blk 1 _⟩
    have HD3 := Lib.hid (Vx.DevAt.kept HD2.out hk (by rfl) (by rfl) (by rfl))
    have HK3 := Lib.hid (HL2.out.trans (hk.mono (by rfl)))
    clear hk
    generalize (w2.setCell ⟨SH, 1, none⟩ (.pointer none)) = w3 at *
    go_wp2_with (go_at_call 18; (with_reducible refine (KA.out _ HK3.out.below).mono ?_); rintro e w4 ⟨rfl, hb4⟩)
    go_ret
    exact ⟨rfl, HS3.out.below hb4, HD3.out.later hb4, HK3.out.step hb4 (Nat.le_trans HBw.out HK3.out.size)⟩)

end Go.Proofs.YtjohhjdicbeojaaGreatDoor.Wc
