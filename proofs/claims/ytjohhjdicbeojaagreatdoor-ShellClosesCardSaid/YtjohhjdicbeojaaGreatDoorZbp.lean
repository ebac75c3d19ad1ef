/- Texts joined: Vu. -/
import Derived.Test.YtjohhjdicbeojaaGreatDoorZbo
namespace Go.Proofs.YtjohhjdicbeojaaGreatDoor.Vu
open Go.RowKit Go.Proofs.YtjohhjdicbeojaaGreatDoor.Ra Go.Proofs.YtjohhjdicbeojaaGreatDoor.Rf Go.Proofs.YtjohhjdicbeojaaGreatDoor.Rj Go.Proofs.YtjohhjdicbeojaaGreatDoor.Rl Go.Proofs.YtjohhjdicbeojaaGreatDoor.Sq Go.Proofs.YtjohhjdicbeojaaGreatDoor.Ss Go.Proofs.YtjohhjdicbeojaaGreatDoor.St Go.Proofs.YtjohhjdicbeojaaGreatDoor.Su Go.Proofs.YtjohhjdicbeojaaGreatDoor.Va Go.Proofs.YtjohhjdicbeojaaGreatDoor.Vb Go.Proofs.YtjohhjdicbeojaaGreatDoor.Vd Go.Proofs.YtjohhjdicbeojaaGreatDoor.Vg Go.Proofs.YtjohhjdicbeojaaGreatDoor.Vh Go.Proofs.YtjohhjdicbeojaaGreatDoor.Vi Go.Proofs.YtjohhjdicbeojaaGreatDoor.Vk Go.Proofs.YtjohhjdicbeojaaGreatDoor.Vl Go.Proofs.YtjohhjdicbeojaaGreatDoor.Vm Go.Proofs.YtjohhjdicbeojaaGreatDoor.Vn Go.Proofs.YtjohhjdicbeojaaGreatDoor.Vo Go.Proofs.YtjohhjdicbeojaaGreatDoor.Vp Go.Proofs.YtjohhjdicbeojaaGreatDoor.Vq
open Go.Proofs.YtjohhjdicbeojaaGreatDoor.KSb (Env itoa_c)
open Go.Proofs.YtjohhjdicbeojaaGreatDoor.KSg (ActM)
open Go.Proofs.YtjohhjdicbeojaaGreatDoor.KSr (lineL)
open Go.Proofs.YtjohhjdicbeojaaGreatDoor.KSu (mkB I64)
set_option maxRecDepth 8000
set_option maxHeartbeats 8000000 in
theorem sdo_stat {B SH D P G R : Nat} {w : World} {t m : Int} (hs : ShAt w SH D (.pointer (some ⟨P, 0, none⟩))) (ht : 0 ≤ t) (ht2 : t ≤ 1000) (hm : m ≤ 1000) (hi : Idle B P G R t m w)
    (hE : EnvOn B w) (hBw : B ≤ w.heap.size) :
    Calls Tryz.prog 8 #[.pointer (some ⟨SH, 0, none⟩), .agg #[.int .i64 5, .int .i64 0, .int .i64 8, .int .i64 0, .int .i64 0, .int .i64 0, .slice none 0 0, .slice none 0 0]] w fun e w' => (e = .returned (.string (okL [.num 0, .num 4]))) ∧ ShAt w' SH D (.pointer (some ⟨P, 0, none⟩)) ∧ Idle B P G R (t + 1) (m + 1) w' ∧ Kept tsAll B w w' := by
  have hbb : Below w.heap.size w (w.alloc (.cells #[.int .i64 5, .int .i64 0, .int .i64 8, .int .i64 0, .int .i64 0, .int .i64 0, .slice none 0 0, .slice none 0 0] 34)) := (Below.refl _ _).alloc (Nat.le_refl _) _
  have HA0 := Lib.hid (ActAt.mk (blk_new w #[.int .i64 5, .int .i64 0, .int .i64 8, .int .i64 0, .int .i64 0, .int .i64 0, .slice none 0 0, .slice none 0 0] 34))
  have HS0 := Lib.hid (hs.below hbb)
  have HL0 : Hid (Kept tsAll B w (w.alloc (.cells #[.int .i64 5, .int .i64 0, .int .i64 8, .int .i64 0, .int .i64 0, .int .i64 0, .slice none 0 0, .slice none 0 0] 34))) := Lib.hid (Kept.of hbb hBw)
  have HE := Lib.hid hE
  have HBw := Lib.hid hBw
  have KL := Lib.hid (fun (W : World) (hb : Below B w W) => line_act 5 0 8 0 0 0 (i64_small _ (by decide) (by decide)) (i64_small _ (by decide) (by decide)) (i64_small _ (by decide) (by decide)) (i64_small _ (by decide) (by decide)) rfl W (hE W hb))
  have HI0 := Lib.hid (hi.below hbb)
  have KD := Lib.hid (fun (W : World) (h1 : Idle B P G R t m W) => pdo_stat ht ht2 hm h1)
  have KR := Lib.hid (fun (n : Value) (W : World) (hb : Below B w W) (h2 : Two W n) => reply_stat (t + 1) n W (hE W hb) h2)
  clear hs hbb hE hBw hi ht ht2 hm
  go_enter Tryz.func8, Tryz.ntmps8
  go_upto_region 1 with fail
  generalize (w.alloc (.cells #[.int .i64 5, .int .i64 0, .int .i64 8, .int .i64 0, .int .i64 0, .int .i64 0, .slice none 0 0, .slice none 0 0] 34)) = w0 at *
  obtain ⟨b0, b1, b2, b3, b4, b5, b6, b7⟩ := HA0.out.cells
  go_upto_region 24 with (go_at_call 7; (with_reducible refine (KL.out _ HL0.out.below).mono ?_); rintro e w1 ⟨sx, rfl, hb1⟩; have HA1 := Lib.hid (HA0.out.below hb1); have HS1 := Lib.hid (HS0.out.below hb1); have HL1 := Lib.hid (HL0.out.step hb1 (Nat.le_trans HBw.out HL0.out.size)); have HI1 := Lib.hid (HI0.out.below hb1); clear hb1; clear b0 b1 b2 b3 b4 b5 b6 b7; obtain ⟨b0, b1, b2, b3, b4, b5, b6, b7⟩ := HA1.out.cells; obtain ⟨c0, c1, f1⟩ := HS1.out.cells)
  have HID : Hid (Idle B P G R t m w1.drew) := Lib.hid (HI1.out.below ((Below.refl _ _).drew))
  have HLD := Lib.hid HL1.out.drew
  have HSD : Hid (ShAt w1.drew SH D (.pointer (some ⟨P, 0, none⟩))) := Lib.hid ⟨HS1.out.blk⟩
  have HAD : Hid (ActAt w1.drew w.heap.size 5 0 8 0 0 0) := Lib.hid ⟨HA1.out.blk⟩
  go_region_with (first
    | (go_at_call 25; (with_reducible refine (KD.out _ HID.out).mono ?_); rintro e w2 ⟨n, rfl, h2, hi, hk2⟩; have HI2 := Lib.hid hi; have HT2 := Lib.hid h2; clear hi h2; have HL2 := Lib.hid (HLD.out.trans hk2); have HA2 := Lib.hid (HAD.out.kept hk2 (by rfl)); have HS2 := Lib.hid (HSD.out.kept hk2 (by rfl)); clear hk2; have g0 : w2.cell? ⟨w.heap.size, 2, none⟩ = some (.int .i64 8) := HA2.out.cells.2.2.1)
    | (go_at_call 24; (with_reducible refine (KR.out _ _ HL2.out.below HT2.out).mono ?_); rintro e w3 ⟨rfl, hb3⟩; have HI3 := Lib.hid (HI2.out.below hb3); have HL3 := Lib.hid (HL2.out.step hb3 (Nat.le_trans HBw.out HL2.out.size)); have HS3 := Lib.hid (HS2.out.below hb3); clear hb3))
  all_goals (
    go_wp2
    go_ret
    exact ⟨rfl, HS3.out, HI3.out, HL3.out⟩)
set_option maxHeartbeats 8000000 in
theorem sdo_bad {B SH D P G R : Nat} {w : World} {t m : Int} (hs : ShAt w SH D (.pointer (some ⟨P, 0, none⟩))) (ht : 0 ≤ t) (ht2 : t ≤ 1000) (hm : m ≤ 1000) (hi : Idle B P G R t m w)
    (hE : EnvOn B w) (hBw : B ≤ w.heap.size) :
    Calls Tryz.prog 8 #[.pointer (some ⟨SH, 0, none⟩), .agg #[.int .i64 5, .int .i64 0, .int .i64 4, .int .i64 0, .int .i64 9, .int .i64 0, .slice none 0 0, .slice none 0 0]] w fun e w' => (e = .returned (.string (errL 5))) ∧ ShAt w' SH D (.pointer (some ⟨P, 0, none⟩)) ∧ Idle B P G R (t + 1) (m + 1) w' ∧ Kept tsAll B w w' := by
  have hbb : Below w.heap.size w (w.alloc (.cells #[.int .i64 5, .int .i64 0, .int .i64 4, .int .i64 0, .int .i64 9, .int .i64 0, .slice none 0 0, .slice none 0 0] 34)) := (Below.refl _ _).alloc (Nat.le_refl _) _
  have HA0 := Lib.hid (ActAt.mk (blk_new w #[.int .i64 5, .int .i64 0, .int .i64 4, .int .i64 0, .int .i64 9, .int .i64 0, .slice none 0 0, .slice none 0 0] 34))
  have HS0 := Lib.hid (hs.below hbb)
  have HL0 : Hid (Kept tsAll B w (w.alloc (.cells #[.int .i64 5, .int .i64 0, .int .i64 4, .int .i64 0, .int .i64 9, .int .i64 0, .slice none 0 0, .slice none 0 0] 34))) := Lib.hid (Kept.of hbb hBw)
  have HE := Lib.hid hE
  have HBw := Lib.hid hBw
  have KL := Lib.hid (fun (W : World) (hb : Below B w W) => line_act 5 0 4 0 9 0 (i64_small _ (by decide) (by decide)) (i64_small _ (by decide) (by decide)) (i64_small _ (by decide) (by decide)) (i64_small _ (by decide) (by decide)) rfl W (hE W hb))
  have HI0 := Lib.hid (hi.below hbb)
  have KD := Lib.hid (fun (W : World) (h1 : Idle B P G R t m W) => pdo_bad 9 (by decide) ht ht2 hm h1)
  have KR := Lib.hid (fun (W : World) (hb : Below B w W) => reply_bad (t + 1) 5 (by decide) (by decide) (by decide) W (hE W hb))
  clear hs hbb hE hBw hi ht ht2 hm
  go_enter Tryz.func8, Tryz.ntmps8
  go_upto_region 1 with fail
  generalize (w.alloc (.cells #[.int .i64 5, .int .i64 0, .int .i64 4, .int .i64 0, .int .i64 9, .int .i64 0, .slice none 0 0, .slice none 0 0] 34)) = w0 at *
  obtain ⟨b0, b1, b2, b3, b4, b5, b6, b7⟩ := HA0.out.cells
  go_upto_region 24 with (go_at_call 7; (with_reducible refine (KL.out _ HL0.out.below).mono ?_); rintro e w1 ⟨sx, rfl, hb1⟩; have HA1 := Lib.hid (HA0.out.below hb1); have HS1 := Lib.hid (HS0.out.below hb1); have HL1 := Lib.hid (HL0.out.step hb1 (Nat.le_trans HBw.out HL0.out.size)); have HI1 := Lib.hid (HI0.out.below hb1); clear hb1; clear b0 b1 b2 b3 b4 b5 b6 b7; obtain ⟨b0, b1, b2, b3, b4, b5, b6, b7⟩ := HA1.out.cells; obtain ⟨c0, c1, f1⟩ := HS1.out.cells)
  have HID : Hid (Idle B P G R t m w1.drew) := Lib.hid (HI1.out.below ((Below.refl _ _).drew))
  have HLD := Lib.hid HL1.out.drew
  have HSD : Hid (ShAt w1.drew SH D (.pointer (some ⟨P, 0, none⟩))) := Lib.hid ⟨HS1.out.blk⟩
  have HAD : Hid (ActAt w1.drew w.heap.size 5 0 4 0 9 0) := Lib.hid ⟨HA1.out.blk⟩
  go_region_with (first
    | (go_at_call 25; (with_reducible refine (KD.out _ HID.out).mono ?_); rintro e w2 ⟨rfl, hi, hk2⟩; have HI2 := Lib.hid hi; clear hi; have HL2 := Lib.hid (HLD.out.trans hk2); have HA2 := Lib.hid (HAD.out.kept hk2 (by rfl)); have HS2 := Lib.hid (HSD.out.kept hk2 (by rfl)); clear hk2; have g0 : w2.cell? ⟨w.heap.size, 2, none⟩ = some (.int .i64 4) := HA2.out.cells.2.2.1)
    | (go_at_call 24; (with_reducible refine (KR.out _ HL2.out.below).mono ?_); rintro e w3 ⟨rfl, hb3⟩; have HI3 := Lib.hid (HI2.out.below hb3); have HL3 := Lib.hid (HL2.out.step hb3 (Nat.le_trans HBw.out HL2.out.size)); have HS3 := Lib.hid (HS2.out.below hb3); clear hb3))
  all_goals (
    go_wp2
    go_ret
    exact ⟨rfl, HS3.out, HI3.out, HL3.out⟩)
end Go.Proofs.YtjohhjdicbeojaaGreatDoor.Vu
