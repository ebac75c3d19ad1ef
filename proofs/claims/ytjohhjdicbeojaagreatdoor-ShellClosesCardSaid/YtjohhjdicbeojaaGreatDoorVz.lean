/- The law ShellNone, walked. -/
import Derived.Test.YtjohhjdicbeojaaGreatDoorVy
namespace Go.Proofs.YtjohhjdicbeojaaGreatDoor.Vz
open Go.RowKit Go.Proofs.YtjohhjdicbeojaaGreatDoor.Ra Go.Proofs.YtjohhjdicbeojaaGreatDoor.Rf Go.Proofs.YtjohhjdicbeojaaGreatDoor.Rj Go.Proofs.YtjohhjdicbeojaaGreatDoor.Rl Go.Proofs.YtjohhjdicbeojaaGreatDoor.Va Go.Proofs.YtjohhjdicbeojaaGreatDoor.Vo Go.Proofs.YtjohhjdicbeojaaGreatDoor.Vp Go.Proofs.YtjohhjdicbeojaaGreatDoor.Vq Go.Proofs.YtjohhjdicbeojaaGreatDoor.Vw Go.Proofs.YtjohhjdicbeojaaGreatDoor.Vx Go.Proofs.YtjohhjdicbeojaaGreatDoor.Vy Go.Proofs.YtjohhjdicbeojaaGreatDoor.Wa
open Go.Proofs.YtjohhjdicbeojaaGreatDoor.KSb (Env itoa_c)
open Go.Proofs.YtjohhjdicbeojaaGreatDoor.KSu (mkB I64)
set_option maxRecDepth 8000

theorem env_on {w : World} (hE : Env w) : EnvOn w.heap.size w := fun _ hb => hE.below hb
theorem zerosB_size : zerosB.size = 128 := by unfold zerosB; rw [mkB_size]; rfl

set_option maxHeartbeats 8000000 in
/-- The simplest facts. -/
theorem awake_c (w : World) (hE : Env w) : Calls Tryz.prog 6 #[] w fun e w' => e = .returned (.bool true) ∧ Below w.heap.size w w' := by
  have kn := snew_c 60 w (by decide) (by decide)
  rw [show ((60 : Nat) : Int) = 60 from rfl] at kn
  have KN := Lib.hid kn
  have kr := fun (SH D S N : Nat) (W : World) (hBS : w.heap.size ≤ SH) (hb : Below w.heap.size w W) (h : Stand w.heap.size SH D S N 0 W) => run_c hBS h ((env_on hE).later hb) hb.size
  unfold textB at kr
  have KR := Lib.hid kr
  have KZ := Lib.hid (fun (W : World) => zeros_c W)
  have ho := out7
  have hz := zerosB_size
  rw [show mkB (List.replicate 128 48) = zerosB from rfl] at ho
  unfold tB1 tB2 at ho
  generalize mkB (outN 7) = tt at *
  generalize zerosB = z at *
  have n1 : ¬ 9223372036854775807 < (⟨#[111, 107, 10, 111, 107, 10, 111, 107, 32, 48, 10, 111, 107, 32, 50, 10, 50, 32, 111, 107, 32, 48, 32, 120]⟩ : ByteArray).size + z.size := by
    rw [hz]; decide
  have n2 : ¬ 9223372036854775807 < 24 + z.size := by omega
  have n3 : ((⟨#[111, 107, 10, 111, 107, 10, 111, 107, 32, 48, 10, 111, 107, 32, 50, 10, 50, 32, 111, 107, 32, 48, 32, 120]⟩ : ByteArray) ++ z).size = 152 := by
    rw [ByteArray.size_append, hz]; rfl
  clear kn kr hE
  go_enter Tryz.func6, Tryz.ntmps6
  go_upto_region 4 with (go_at_call 5; (with_reducible refine KN.out.mono ?_); rintro e w1 ⟨⟨SH, D, S, N, rfl, hge, hs, hd⟩, hb1⟩; have HG := Lib.hid hge; have HB1 := Lib.hid hb1; have HS1 : Hid (Stand w.heap.size SH D S N 0 w1) := Lib.hid ⟨hs, hd⟩; clear hge hs hd hb1)
  go_upto_region 5 with (go_at_call 11; (with_reducible refine (KR.out _ _ _ _ _ HG.out HB1.out HS1.out).mono ?_); rintro e w2 ⟨rfl, hs2, hk2⟩; have HB2 := Lib.hid (HB1.out.trans hk2.below); obtain ⟨P, G, R, hsh, -⟩ := hs2; have HS2 := Lib.hid hsh; clear hk2 hsh)
  have KP := Lib.hid (pool_c HS2.out)
  go_wp2_with (first
    | (go_at_call 10; (with_reducible refine KP.out.mono ?_); rintro e w3 ⟨rfl, rfl⟩)
    | (go_at_call 13; (with_reducible refine (KZ.out _).mono ?_); rintro e w4 ⟨rfl, hb4⟩; have HB4 := Lib.hid (HB2.out.trans (hb4.mono HB2.out.size)); clear hb4))
  go_ret
  exact ⟨rfl, HB4.out⟩

set_option maxHeartbeats 8000000 in
/-- The law. -/
theorem none_c (k n rk v b s : Int) (p1 p3 : Option Addr) (l1 c1 l3 c3 : Nat) (text : ByteArray) (w : World) (hE : Env w) :
    Calls Tryz.prog 4 #[.agg #[.int .i64 k, .int .i64 n, .int .i64 rk, .int .i64 v, .int .i64 b, .int .i64 s, .slice p1 l1 c1, .slice p3 l3 c3], .string text] w fun e w' => e = .returned (.bool true) ∧ Below w.heap.size w w' := by
  have hbx := blk_new w #[.int .i64 k, .int .i64 n, .int .i64 rk, .int .i64 v, .int .i64 b, .int .i64 s, .slice p1 l1 c1, .slice p3 l3 c3] 34
  have hb0 : Below w.heap.size w (w.alloc (.cells #[.int .i64 k, .int .i64 n, .int .i64 rk, .int .i64 v, .int .i64 b, .int .i64 s, .slice p1 l1 c1, .slice p3 l3 c3] 34)) := (Below.refl _ _).alloc (Nat.le_refl _) _
  have HE0 := Lib.hid (hE.below hb0)
  have HB0 := Lib.hid hb0
  have HX0 := Lib.hid hbx
  have KR := Lib.hid (fun (W : World) => run_nil text W)
  have KA := Lib.hid (fun (W : World) (h : Env W) => awake_c W h)
  have kd := fun (W : World) (h : Env W) => sdo_nil k n rk v b s (.slice p1 l1 c1) (.slice p3 l3 c3) W h
  rw [show errL 1 = (⟨#[101, 114, 114, 111, 114, 32, 49]⟩ : ByteArray) from e1] at kd
  have KD := Lib.hid kd
  have KP := Lib.hid (fun (W : World) => pool_nil W)
  clear hbx hb0 hE kd
  go_enter Tryz.func4, Tryz.ntmps4
  go_upto_region 1 with fail
  generalize (w.alloc (.cells #[.int .i64 k, .int .i64 n, .int .i64 rk, .int .i64 v, .int .i64 b, .int .i64 s, .slice p1 l1 c1, .slice p3 l3 c3] 34)) = w0 at *
  go_wp2_with (first
    | (go_at_call 11; (with_reducible refine (KR.out _).mono ?_); rintro e w1 ⟨rfl, rfl⟩)
    | (go_at_call 6; (with_reducible refine (KA.out _ HE0.out).mono ?_); rintro e w2 ⟨rfl, hb2⟩; have HB2 := Lib.hid (HB0.out.trans (hb2.mono HB0.out.size)); have HE2 := Lib.hid (HE0.out.below hb2); have hx2 := blk_below HX0.out hb2 (lt_of_block HX0.out); have b0 := blk_cell hx2 0; have b1 := blk_cell hx2 1; have b2 := blk_cell hx2 2; have b3 := blk_cell hx2 3; have b4 := blk_cell hx2 4; have b5 := blk_cell hx2 5; have b6 := blk_cell hx2 6; have b7 := blk_cell hx2 7; simp at b0 b1 b2 b3 b4 b5 b6 b7; clear hb2 hx2)
    | (go_at_call 8; (with_reducible refine (KD.out _ HE2.out).mono ?_); rintro e w3 ⟨rfl, hb3⟩; have HB3 := Lib.hid (HB2.out.trans (hb3.mono HB2.out.size)); clear hb3)
    | (go_at_call 10; (with_reducible refine (KP.out _).mono ?_); rintro e w4 ⟨rfl, rfl⟩))
  go_ret
  exact ⟨rfl, HB3.out⟩
end Go.Proofs.YtjohhjdicbeojaaGreatDoor.Vz
