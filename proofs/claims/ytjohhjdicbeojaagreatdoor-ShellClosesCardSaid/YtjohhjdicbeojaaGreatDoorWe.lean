/- The law ShellCloses: its walk. -/
import Derived.Test.YtjohhjdicbeojaaGreatDoorWd
namespace Go.Proofs.YtjohhjdicbeojaaGreatDoor.We
open Go.RowKit Go.Proofs.YtjohhjdicbeojaaGreatDoor.Ra Go.Proofs.YtjohhjdicbeojaaGreatDoor.Rf Go.Proofs.YtjohhjdicbeojaaGreatDoor.Rj Go.Proofs.YtjohhjdicbeojaaGreatDoor.Rl Go.Proofs.YtjohhjdicbeojaaGreatDoor.Rm Go.Proofs.YtjohhjdicbeojaaGreatDoor.Va Go.Proofs.YtjohhjdicbeojaaGreatDoor.Vo Go.Proofs.YtjohhjdicbeojaaGreatDoor.Vp Go.Proofs.YtjohhjdicbeojaaGreatDoor.Vq Go.Proofs.YtjohhjdicbeojaaGreatDoor.Vw Go.Proofs.YtjohhjdicbeojaaGreatDoor.Vx Go.Proofs.YtjohhjdicbeojaaGreatDoor.Vz Go.Proofs.YtjohhjdicbeojaaGreatDoor.Wb Go.Proofs.YtjohhjdicbeojaaGreatDoor.Wc Go.Proofs.YtjohhjdicbeojaaGreatDoor.Wd
open Go.Proofs.YtjohhjdicbeojaaGreatDoor.KSb (Env itoa_c)
open Go.Proofs.YtjohhjdicbeojaaGreatDoor.KSg (ActM)
open Go.Proofs.YtjohhjdicbeojaaGreatDoor.KSr (lineL reqL)
open Go.Proofs.YtjohhjdicbeojaaGreatDoor.KSu (mkB I64)
open Go.Proofs.YtjohhjdicbeojaaGreatDoor.KTg (ActIn)
set_option maxRecDepth 8000

theorem cs_new {SH D S N X : Nat} {rk v b s : Int} {dv : Value} {w0 w1 : World} (hb0 : w0.heap[X]? = some (.cells #[.int .i64 rk, .int .i64 v, .int .i64 b, .int .i64 s, dv] 24 (0, 0))) (hs : ShAt w1 SH D (.pointer none)) (hd : DevAt w0.heap.size w1 D S N (.slice none 0 0) (newDev 60)) (hb : Below w0.heap.size w0 w1) :
    Cs w0.heap.size X SH D S N rk v b s dv (.pointer none) (.slice none 0 0) dv0 w0 w1 := ⟨blk_below hb0 hb (lt_of_block hb0), hs, hd, hb⟩

set_option maxHeartbeats 8000000 in
/-- The lists are too long. -/
theorem closes_big (rk v b s pick : Int) (p1 p3 : Option Addr) (l1 c1 l3 c3 : Nat) (w : World) (hE : Env w) (hbig : ¬ (l3 ≤ 100 ∧ l1 ≤ 1000)) :
    Calls Tryz.prog 3 #[.agg #[.int .i64 rk, .int .i64 v, .int .i64 b, .int .i64 s, .slice p1 l1 c1], .int .i64 pick, .slice p3 l3 c3] w fun e w' => e = .returned (.bool true) ∧ Below w.heap.size w w' := by
  have hbx := blk_new w #[.int .i64 rk, .int .i64 v, .int .i64 b, .int .i64 s, .slice p1 l1 c1] 24
  have hb0 : Below w.heap.size w (w.alloc (.cells #[.int .i64 rk, .int .i64 v, .int .i64 b, .int .i64 s, .slice p1 l1 c1] 24)) := (Below.refl _ _).alloc (Nat.le_refl _) _
  have HE0 := Lib.hid (hE.below hb0)
  have HB0 := Lib.hid hb0
  have HX0 := Lib.hid hbx
  have kn := fun (W : World) => snew_c 60 W (by decide) (by decide)
  simp only [show ((60 : Nat) : Int) = 60 from rfl] at kn
  have KN := Lib.hid kn
  have KA := Lib.hid (fun (W : World) (h : Env W) => awake_c W h)
  clear hbx hb0 hE kn
  have hcase : (100 : Int) < (l3 : Int) ∨ (¬ (100 : Int) < (l3 : Int) ∧ (1000 : Int) < (l1 : Int)) := by omega
  clear hbig
  rcases hcase with g1 | ⟨g1, g2⟩
  all_goals (
    go_enter Tryz.func3, Tryz.ntmps3
    go_upto_region 1 with fail
    generalize (w.alloc (.cells #[.int .i64 rk, .int .i64 v, .int .i64 b, .int .i64 s, .slice p1 l1 c1] 24)) = w0 at *
    go_wp2_with (first
      | (go_at_call 5; (with_reducible refine (KN.out _).mono ?_); rintro e w1 ⟨⟨SH, D, S, N, rfl, -, -, -⟩, hb1⟩; have HB1 := Lib.hid (HB0.out.trans (hb1.mono HB0.out.size)); have HE1 := Lib.hid (HE0.out.below hb1); have HX1 := Lib.hid (blk_below HX0.out hb1 (lt_of_block HX0.out)); clear hb1)
      | (go_at_call 6; (with_reducible refine (KA.out _ HE1.out).mono ?_); rintro e w2 ⟨rfl, hb2⟩; have HB2 := Lib.hid (HB1.out.trans (hb2.mono HB1.out.size)); have HE2 := Lib.hid (HE1.out.below hb2); have HX2 := Lib.hid (blk_below HX1.out hb2 (lt_of_block HX1.out)); have b4 : w2.cell? ⟨w.heap.size, 4, none⟩ = some (.slice p1 l1 c1) := blk_cell HX2.out 4; clear hb2)
      | (go_at_call 6; (with_reducible refine (KA.out _ HE2.out).mono ?_); rintro e w3 ⟨rfl, hb3⟩; have HB3 := Lib.hid (HB2.out.trans (hb3.mono HB2.out.size)); clear hb3))
    go_ret
    exact ⟨rfl, HB3.out⟩)

set_option maxHeartbeats 8000000 in
/-- The request has no line. -/
theorem closes_no (rk v b s pick : Int) (p1 p3 : Option Addr) (l1 c1 l3 c3 : Nat) (w : World) (hE : Env w) (h3 : l3 ≤ 100) (h1 : l1 ≤ 1000) (hL : LnNo (actV 5 0 rk v b s (.slice p1 l1 c1) (.slice none 0 0)) w) :
    Calls Tryz.prog 3 #[.agg #[.int .i64 rk, .int .i64 v, .int .i64 b, .int .i64 s, .slice p1 l1 c1], .int .i64 pick, .slice p3 l3 c3] w fun e w' => e = .returned (.bool true) ∧ Below w.heap.size w w' := by
  have hbx := blk_new w #[.int .i64 rk, .int .i64 v, .int .i64 b, .int .i64 s, .slice p1 l1 c1] 24
  have hb0 : Below w.heap.size w (w.alloc (.cells #[.int .i64 rk, .int .i64 v, .int .i64 b, .int .i64 s, .slice p1 l1 c1] 24)) := (Below.refl _ _).alloc (Nat.le_refl _) _
  have HE0 := Lib.hid (hE.below hb0)
  have HB0 := Lib.hid hb0
  have HX0 := Lib.hid hbx
  have hl := hL
  unfold LnNo at hl
  have HL := Lib.hid hl
  clear hl
  have kn := fun (W : World) => snew_c 60 W (by decide) (by decide)
  simp only [show ((60 : Nat) : Int) = 60 from rfl] at kn
  have KN := Lib.hid kn
  have KA := Lib.hid (fun (W : World) (h : Env W) => awake_c W h)
  have kd := fun (SH D : Nat) (W : World) (hs : ShAt W SH D (.pointer none)) (hb : Below w.heap.size w W) => cdo_bad 5 0 rk v b s p1 none l1 c1 0 0 hs (hE.below hb) (hL.later hb)
  rw [err1] at kd
  have KD := Lib.hid kd
  have K1 := Lib.hid (fun (W : World) => number_1 W)
  have hcat : (⟨#[101, 114, 114, 111, 114, 32]⟩ : ByteArray) ++ (⟨#[49]⟩ : ByteArray) = ⟨#[101, 114, 114, 111, 114, 32, 49]⟩ := rfl
  have g1 : ¬ (100 : Int) < (l3 : Int) := by omega
  have g2 : ¬ (1000 : Int) < (l1 : Int) := by omega
  clear hbx hb0 hE kn kd hL h1 h3
  go_enter Tryz.func3, Tryz.ntmps3
  go_upto_region 1 with fail
  generalize (w.alloc (.cells #[.int .i64 rk, .int .i64 v, .int .i64 b, .int .i64 s, .slice p1 l1 c1] 24)) = w0 at *
  go_wp2_with (first
    | (go_at_call 5; (with_reducible refine (KN.out _).mono ?_); rintro e w1 ⟨⟨SH, D, S, N, rfl, -, hs1, -⟩, hb1⟩; have HS1 := Lib.hid hs1; have HB1 := Lib.hid (HB0.out.trans (hb1.mono HB0.out.size)); have HE1 := Lib.hid (HE0.out.below hb1); have HX1 := Lib.hid (blk_below HX0.out hb1 (lt_of_block HX0.out)); clear hb1 hs1)
    | (go_at_call 6; (with_reducible refine (KA.out _ HE1.out).mono ?_); rintro e w2 ⟨rfl, hb2⟩; have HS2 := Lib.hid (HS1.out.below hb2); have HB2 := Lib.hid (HB1.out.trans (hb2.mono HB1.out.size)); have HX2 := Lib.hid (blk_below HX1.out hb2 (lt_of_block HX1.out)); have b0 : w2.cell? ⟨w.heap.size, 0, none⟩ = some (.int .i64 rk) := blk_cell HX2.out 0; have b1 : w2.cell? ⟨w.heap.size, 1, none⟩ = some (.int .i64 v) := blk_cell HX2.out 1; have b2 : w2.cell? ⟨w.heap.size, 2, none⟩ = some (.int .i64 b) := blk_cell HX2.out 2; have b3 : w2.cell? ⟨w.heap.size, 3, none⟩ = some (.int .i64 s) := blk_cell HX2.out 3; have b4 : w2.cell? ⟨w.heap.size, 4, none⟩ = some (.slice p1 l1 c1) := blk_cell HX2.out 4; clear hb2)
    | (go_at_call 7; (with_reducible refine (HL.out _ HB2.out).mono ?_); rintro e w3 ⟨rfl, hb3⟩; have HS3 := Lib.hid (HS2.out.below hb3); have HB3 := Lib.hid (HB2.out.trans (hb3.mono HB2.out.size)); have HX3 := Lib.hid (blk_below HX2.out hb3 (lt_of_block HX2.out)); clear b0 b1 b2 b3 b4; have b0 : w3.cell? ⟨w.heap.size, 0, none⟩ = some (.int .i64 rk) := blk_cell HX3.out 0; have b1 : w3.cell? ⟨w.heap.size, 1, none⟩ = some (.int .i64 v) := blk_cell HX3.out 1; have b2 : w3.cell? ⟨w.heap.size, 2, none⟩ = some (.int .i64 b) := blk_cell HX3.out 2; have b3 : w3.cell? ⟨w.heap.size, 3, none⟩ = some (.int .i64 s) := blk_cell HX3.out 3; have b4 : w3.cell? ⟨w.heap.size, 4, none⟩ = some (.slice p1 l1 c1) := blk_cell HX3.out 4; clear hb3)
    | (go_at_call 8; (with_reducible refine (KD.out _ _ _ HS3.out HB3.out).mono ?_); rintro e w4 ⟨rfl, hb4⟩; have HB4 := Lib.hid (HB3.out.trans (hb4.mono HB3.out.size)); clear hb4)
    | (go_at_call 9; (with_reducible refine (K1.out _).mono ?_); rintro e w5 ⟨rfl, hb5⟩; have HB5 := Lib.hid (HB4.out.trans (hb5.mono HB4.out.size)); clear hb5))
  go_ret
  exact ⟨rfl, HB5.out⟩

set_option maxHeartbeats 8000000 in
/-- It has one. -/
theorem closes_yes (rk v b s pick : Int) (p1 p3 : Option Addr) (l1 c1 l3 c3 : Nat) (w : World) (hE : Env w) (hp : I64 pick) (h3 : l3 ≤ 100) (h1 : l1 ≤ 1000)
    (hr : LnOk (actV 5 0 rk v b s (.slice p1 l1 c1) (.slice none 0 0)) w) (hr3 : LnOk (actV 3 0 rk v b s (.slice p1 l1 c1) (.slice none 0 0)) w) (hk : LnOk (actV 7 0 0 0 0 0 (.slice none 0 0) (.slice p3 l3 c3)) w) :
    Calls Tryz.prog 3 #[.agg #[.int .i64 rk, .int .i64 v, .int .i64 b, .int .i64 s, .slice p1 l1 c1], .int .i64 pick, .slice p3 l3 c3] w fun e w' => e = .returned (.bool true) ∧ Below w.heap.size w w' := by
  have hbx := blk_new w #[.int .i64 rk, .int .i64 v, .int .i64 b, .int .i64 s, .slice p1 l1 c1] 24
  have hb0 : Below w.heap.size w (w.alloc (.cells #[.int .i64 rk, .int .i64 v, .int .i64 b, .int .i64 s, .slice p1 l1 c1] 24)) := (Below.refl _ _).alloc (Nat.le_refl _) _
  have HE0 := Lib.hid (hE.below hb0)
  have HB0 := Lib.hid hb0
  have HX0 := Lib.hid hbx
  have hl := hr.later hb0
  unfold LnOk at hl
  have HL0 := Lib.hid hl
  clear hl
  have KW := Lib.hid (fun (SH D S N : Nat) (hBS : (w.alloc (.cells #[.int .i64 rk, .int .i64 v, .int .i64 b, .int .i64 s, .slice p1 l1 c1] 24)).heap.size ≤ SH) => (cw_of (D := D) (S := S) (N := N) (X := w.heap.size) rfl hBS (hE.below hb0) hp (hr.later hb0) (hr3.later hb0) (hk.later hb0)))
  have kn := fun (W : World) => snew_c 60 W (by decide) (by decide)
  simp only [show ((60 : Nat) : Int) = 60 from rfl] at kn
  have KN := Lib.hid kn
  have KA := Lib.hid (fun (W : World) (h : Env W) => awake_c W h)
  have g1 : ¬ (100 : Int) < (l3 : Int) := by omega
  have g2 : ¬ (1000 : Int) < (l1 : Int) := by omega
  clear hbx hb0 hE kn hr hr3 hk h1 h3 hp
  go_enter Tryz.func3, Tryz.ntmps3
  go_upto_region 1 with fail
  generalize (w.alloc (.cells #[.int .i64 rk, .int .i64 v, .int .i64 b, .int .i64 s, .slice p1 l1 c1] 24)) = w0 at *
  go_upto_region 2 with (go_at_call 5; (with_reducible refine (KN.out _).mono ?_); rintro e w1 ⟨⟨SH, D, S, N, rfl, hge, hs1, hd1⟩, hb1⟩; have HC1 := Lib.hid (cs_new HX0.out hs1 hd1 hb1); have HE1 := Lib.hid (HE0.out.below hb1); have KC := Lib.hid (KW.out SH D S N hge); clear hb1 hs1 hd1 hge)
  clear KW KN
  go_upto_region 7 with (first
    | (go_at_call 6; (with_reducible refine (KA.out _ HE1.out).mono ?_); rintro e w2 ⟨rfl, hb2⟩; have HC2 := Lib.hid (HC1.out.later hb2 HC1.out.size); obtain ⟨b0, b1, b2, b3, b4⟩ := HC2.out.cells; clear hb2)
    | (go_at_call 7; (with_reducible refine (HL0.out _ HC2.out.below).mono ?_); rintro e w3 ⟨sx, rfl, hb3⟩; have HC3 := Lib.hid (HC2.out.later hb3 HC2.out.size); clear b0 b1 b2 b3 b4; obtain ⟨b0, b1, b2, b3, b4⟩ := HC3.out.cells; clear hb3))
  clear HC1 HC2 HL0 KA HE1
  go_upto_region 9 with (first
    | (go_at_call 8; (with_reducible refine (KC.out.req _ _ _ HC3.out).mono ?_); rintro e w4 ⟨rfl, hc4⟩; have HC4 := Lib.hid hc4; clear hc4; clear b0 b1 b2 b3 b4; obtain ⟨b0, b1, b2, b3, b4⟩ := HC4.out.cells)
    | (go_at_call 8; (with_reducible refine (KC.out.lat _ _ _ HC4.out).mono ?_); rintro e w5 ⟨rfl, hc5⟩; have HC5 := Lib.hid hc5; clear hc5)
    | (go_at_call 8; (with_reducible refine (KC.out.stp _ _ _ HC5.out).mono ?_); rintro e w6 ⟨rfl, hc6⟩; have HC6 := Lib.hid hc6; clear hc6)
    | (go_at_call 8; (with_reducible refine (KC.out.opn _ _ HC6.out).mono ?_); rintro e w7 ⟨rfl, hc7⟩; have HC7 := Lib.hid hc7; clear hc7))
  clear HC3 HC4 HC5 HC6 b0 b1 b2 b3 b4
  go_upto_region 10 with (go_at_call 8; (with_reducible refine (KC.out.fmt _ HC7.out).mono ?_); rintro e w8 ⟨⟨sy, rfl⟩, lv8, hc8⟩; have HC8 := Lib.hid hc8; clear hc8)
  clear HC7
  go_upto_region 12 with (first
    | (go_at_call 8; (with_reducible refine (KC.out.op1 _ _ HC8.out).mono ?_); rintro e w9 ⟨rfl, P, hc9⟩; have HC9 := Lib.hid hc9; have HP9 := Lib.hid (pool_c hc9.sh); clear hc9)
    | (go_at_call 10; (with_reducible refine HP9.out.mono ?_); rintro e w10 ⟨rfl, rfl⟩)
    | (go_at_call 8; (with_reducible refine (KC.out.crs _ _ _ HC9.out).mono ?_); rintro e w11 ⟨rfl, lv11, hc11⟩; have HC11 := Lib.hid hc11; have HP11 := Lib.hid (pool_c hc11.sh); obtain ⟨b0, b1, b2, b3, b4⟩ := hc11.cells; clear hc11)
    | (go_at_call 10; (with_reducible refine HP11.out.mono ?_); rintro e w12 ⟨rfl, rfl⟩))
  clear HC8 HC9 HP9 HP11
  go_wp2_with (first
    | (go_at_call 8; (with_reducible refine (KC.out.req _ _ _ HC11.out).mono ?_); rintro e w13 ⟨rfl, hc13⟩; have HC13 := Lib.hid hc13; clear hc13)
    | (go_at_call 8; (with_reducible refine (KC.out.op2 _ _ HC13.out).mono ?_); rintro e w14 ⟨rfl, Q, hc14⟩; have HB14 := Lib.hid (HB0.out.trans (hc14.below.mono HB0.out.size)); have HP14 := Lib.hid (pool_c hc14.sh); clear hc14)
    | (go_at_call 10; (with_reducible refine HP14.out.mono ?_); rintro e w15 ⟨rfl, rfl⟩))
  go_ret
  exact ⟨rfl, HB14.out⟩

/-- The law. -/
theorem closes_c (rk v b s pick : Int) (p1 p3 : Option Addr) (l1 c1 l3 c3 : Nat) (la : List UInt8) (lk : List Int) (w : World) (hE : Env w) (hp : I64 pick) (e1 : la.length = l1) (e3 : lk.length = l3)
    (hr : ActIn w ⟨5, 0, rk, v, b, s, la, []⟩ (.slice p1 l1 c1) (.slice none 0 0)) (hk : ActIn w ⟨7, 0, 0, 0, 0, 0, [], lk⟩ (.slice none 0 0) (.slice p3 l3 c3)) :
    Calls Tryz.prog 3 #[.agg #[.int .i64 rk, .int .i64 v, .int .i64 b, .int .i64 s, .slice p1 l1 c1], .int .i64 pick, .slice p3 l3 c3] w fun e w' => e = .returned (.bool true) ∧ Below w.heap.size w w' := by
  by_cases hbig : l3 ≤ 100 ∧ l1 ≤ 1000
  · obtain ⟨h3, h1⟩ := hbig
    have d1 : la.length ≤ 1099511627776 := by omega
    have d3 : lk.length ≤ 1099511627776 := by omega
    cases hl : (lineL ⟨5, 0, rk, v, b, s, la, []⟩).2 with
    | false => exact closes_no rk v b s pick p1 p3 l1 c1 l3 c3 w hE h3 h1 (ln_no ⟨5, 0, rk, v, b, s, la, []⟩ _ _ w hE hr d1 (Nat.zero_le _) hl)
    | true =>
      have hr3 : ActIn w ⟨3, 0, rk, v, b, s, la, []⟩ (.slice p1 l1 c1) (.slice none 0 0) := ⟨hr.n, hr.vol, hr.block, hr.size, hr.keeps, hr.data, hr.keep⟩
      exact closes_yes rk v b s pick p1 p3 l1 c1 l3 c3 w hE hp h3 h1 (ln_ok ⟨5, 0, rk, v, b, s, la, []⟩ _ _ w hE hr d1 (Nat.zero_le _) hl) (ln_ok ⟨3, 0, rk, v, b, s, la, []⟩ _ _ w hE hr3 d1 (Nat.zero_le _) hl)
        (ln_ok ⟨7, 0, 0, 0, 0, 0, [], lk⟩ _ _ w hE hk (Nat.zero_le _) d3 rfl)
  · exact closes_big rk v b s pick p1 p3 l1 c1 l3 c3 w hE hbig
end Go.Proofs.YtjohhjdicbeojaaGreatDoor.We
