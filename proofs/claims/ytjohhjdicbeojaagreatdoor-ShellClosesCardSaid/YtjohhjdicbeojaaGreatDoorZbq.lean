/- Texts joined: Vv. -/
import Derived.Test.YtjohhjdicbeojaaGreatDoorZbo
namespace Go.Proofs.YtjohhjdicbeojaaGreatDoor.Vv
open Go.RowKit Go.Proofs.YtjohhjdicbeojaaGreatDoor.Ra Go.Proofs.YtjohhjdicbeojaaGreatDoor.Rf Go.Proofs.YtjohhjdicbeojaaGreatDoor.Rj Go.Proofs.YtjohhjdicbeojaaGreatDoor.Rl Go.Proofs.YtjohhjdicbeojaaGreatDoor.Sq Go.Proofs.YtjohhjdicbeojaaGreatDoor.Ss Go.Proofs.YtjohhjdicbeojaaGreatDoor.St Go.Proofs.YtjohhjdicbeojaaGreatDoor.Su Go.Proofs.YtjohhjdicbeojaaGreatDoor.Va Go.Proofs.YtjohhjdicbeojaaGreatDoor.Vb Go.Proofs.YtjohhjdicbeojaaGreatDoor.Vd Go.Proofs.YtjohhjdicbeojaaGreatDoor.Vg Go.Proofs.YtjohhjdicbeojaaGreatDoor.Vh Go.Proofs.YtjohhjdicbeojaaGreatDoor.Vi Go.Proofs.YtjohhjdicbeojaaGreatDoor.Vk Go.Proofs.YtjohhjdicbeojaaGreatDoor.Vl Go.Proofs.YtjohhjdicbeojaaGreatDoor.Vm Go.Proofs.YtjohhjdicbeojaaGreatDoor.Vn Go.Proofs.YtjohhjdicbeojaaGreatDoor.Vo Go.Proofs.YtjohhjdicbeojaaGreatDoor.Vp Go.Proofs.YtjohhjdicbeojaaGreatDoor.Vq
open Go.Proofs.YtjohhjdicbeojaaGreatDoor.KSb (Env itoa_c)
open Go.Proofs.YtjohhjdicbeojaaGreatDoor.KSg (ActM)
open Go.Proofs.YtjohhjdicbeojaaGreatDoor.KSr (lineL)
open Go.Proofs.YtjohhjdicbeojaaGreatDoor.KSu (mkB I64)
set_option maxRecDepth 8000
set_option maxHeartbeats 8000000 in
theorem sdo_later {B SH D P G R : Nat} {w : World} {t m : Int} (hs : ShAt w SH D (.pointer (some ⟨P, 0, none⟩))) (ht : 0 ≤ t) (ht2 : t ≤ 99) (hi : Idle B P G R t m w)
    (hE : EnvOn B w) (hBw : B ≤ w.heap.size) :
    Calls Tryz.prog 8 #[.pointer (some ⟨SH, 0, none⟩), .agg #[.int .i64 3, .int .i64 0, .int .i64 4, .int .i64 0, .int .i64 1, .int .i64 0, .slice none 0 0, .slice none 0 0]] w fun e w' => (e = .returned (.string (okL [.num (t + 1)]))) ∧ ShAt w' SH D (.pointer (some ⟨P, 0, none⟩)) ∧ HasVol B P G R m w' ∧ (∃ p' c', GateAt B w' G (t + 1) [waitV 4 0 1 0 (t + 1)] p' c') ∧ Kept [142, 20] B w w' := by
  have hbb : Below w.heap.size w (w.alloc (.cells #[.int .i64 3, .int .i64 0, .int .i64 4, .int .i64 0, .int .i64 1, .int .i64 0, .slice none 0 0, .slice none 0 0] 34)) := (Below.refl _ _).alloc (Nat.le_refl _) _
  have HA0 := Lib.hid (ActAt.mk (blk_new w #[.int .i64 3, .int .i64 0, .int .i64 4, .int .i64 0, .int .i64 1, .int .i64 0, .slice none 0 0, .slice none 0 0] 34))
  have HS0 := Lib.hid (hs.below hbb)
  have HL0 : Hid (Kept [142, 20] B w (w.alloc (.cells #[.int .i64 3, .int .i64 0, .int .i64 4, .int .i64 0, .int .i64 1, .int .i64 0, .slice none 0 0, .slice none 0 0] 34))) := Lib.hid (Kept.of hbb hBw)
  have HE := Lib.hid hE
  have HBw := Lib.hid hBw
  have KL := Lib.hid (fun (W : World) (hb : Below B w W) => line_act 3 0 4 0 1 0 (i64_small _ (by decide) (by decide)) (i64_small _ (by decide) (by decide)) (i64_small _ (by decide) (by decide)) (i64_small _ (by decide) (by decide)) rfl W (hE W hb))
  obtain ⟨⟨T, x, hv, hx⟩, p, c, hg⟩ := hi
  have HV0 := Lib.hid (hv.below hbb)
  have HG0 := Lib.hid (hg.below hbb)
  have HX := Lib.hid hx
  have KU := Lib.hid (fun (W : World) (h1 : VolAt B W P G R T x) (h3 : GateAt B W G t [] p c) => psubmit_c 4 0 1 0 (by decide) (by decide) ht (by omega) h1.pool h3)
  have KA := Lib.hid (fun (W : World) (v : Value) (hb : Below B w W) (htl : TellAt W v [.num (t + 1)]) => answer_ok v [.num (t + 1)] W (hE W hb) htl (by show 1 ≤ 100; decide))
  have HI := Lib.hid (show -9223372036854775808 ≤ t + 1 ∧ t + 1 ≤ 9223372036854775807 from ⟨by omega, by omega⟩)
  clear hs hbb hE hBw hv hg hx ht ht2
  go_enter Tryz.func8, Tryz.ntmps8
  go_upto_region 1 with fail
  generalize (w.alloc (.cells #[.int .i64 3, .int .i64 0, .int .i64 4, .int .i64 0, .int .i64 1, .int .i64 0, .slice none 0 0, .slice none 0 0] 34)) = w0 at *
  obtain ⟨b0, b1, b2, b3, b4, b5, b6, b7⟩ := HA0.out.cells
  go_upto_region 21 with (go_at_call 7; (with_reducible refine (KL.out _ HL0.out.below).mono ?_); rintro e w1 ⟨sx, rfl, hb1⟩; have HA1 := Lib.hid (HA0.out.below hb1); have HS1 := Lib.hid (HS0.out.below hb1); have HL1 := Lib.hid (HL0.out.step hb1 (Nat.le_trans HBw.out HL0.out.size)); have HV1 := Lib.hid (HV0.out.below hb1); have HG1 := Lib.hid (HG0.out.below hb1); clear hb1; clear b0 b1 b2 b3 b4 b5 b6 b7; obtain ⟨b0, b1, b2, b3, b4, b5, b6, b7⟩ := HA1.out.cells; obtain ⟨c0, c1, f1⟩ := HS1.out.cells)
  have HVD := Lib.hid HV1.out.drew
  have HGD := Lib.hid HG1.out.drew
  have HLD := Lib.hid HL1.out.drew
  have HSD : Hid (ShAt w1.drew SH D (.pointer (some ⟨P, 0, none⟩))) := Lib.hid ⟨HS1.out.blk⟩
  go_region_with (go_at_call 23; (with_reducible refine (KU.out _ HVD.out HGD.out).mono ?_); rintro e w2 ⟨rfl, _, hg2, hk2⟩; have HV2 := Lib.hid (HVD.out.kept hk2 (by rfl) (by rfl) (by rfl) (by rfl)); have HG2 := Lib.hid hg2; have HL2 := Lib.hid (HLD.out.trans hk2); have HS2 := Lib.hid (HSD.out.kept hk2 (by rfl)); clear hg2 hk2)
  all_goals (
    have hn := blk_new w2 #[.iface 3 (.int .i64 (t + 1))] 20
    have HB2 : Hid (Below w2.heap.size w2 (w2.alloc (.cells #[.iface 3 (.int .i64 (t + 1))] 20))) := Lib.hid ((Below.refl _ _).alloc (Nat.le_refl _) _)
    have HL3 := Lib.hid (HL2.out.step HB2.out (Nat.le_trans HBw.out HL2.out.size))
    have HT := Lib.hid (show TellAt (w2.alloc (.cells #[.iface 3 (.int .i64 (t + 1))] 20)) (.slice (some ⟨w2.heap.size, 0, none⟩) 1 1) [.num (t + 1)] from ⟨_, _, rfl, fun _ => ⟨w2.heap.size, 0, rfl, lt_of_block hn, fun j it hj => by
      cases j with
      | zero =>
        obtain rfl := Option.some.inj hj
        exact ⟨HI.out, blk_cell hn 0⟩
      | succ j => cases hj⟩⟩)
    have HV3 := Lib.hid (HV2.out.below HB2.out)
    have HS3 := Lib.hid (HS2.out.below HB2.out)
    have HG3 : Hid (∃ p' c', GateAt B (w2.alloc (.cells #[.iface 3 (.int .i64 (t + 1))] 20)) G (t + 1) [waitV 4 0 1 0 (t + 1)] p' c') := Lib.hid (by obtain ⟨p', c', hg⟩ := HG2.out; exact ⟨p', c', hg.below HB2.out⟩)
    clear hn HB2
    go_wp2_with (go_at_call 18; (refine (KA.out _ _ HL3.out.below HT.out).mono ?_); rintro e w4 ⟨rfl, hb4⟩)
    go_ret
    obtain ⟨p', c', hg⟩ := HG3.out
    exact ⟨rfl, HS3.out.below hb4, ⟨T, x, HV3.out.below hb4, HX.out⟩, ⟨p', c', hg.below hb4⟩, HL3.out.step hb4 (Nat.le_trans HBw.out HL3.out.size)⟩)
def zs64 : List UInt8 := List.replicate 64 0
theorem zs64_len : zs64.length = 64 := List.length_replicate
/-- Behind Step: the reply in a box. -/
structure StepSt (B P G R SH D : Nat) (t m tk : Int) (w W : World) (X g : Nat) : Prop where
  rep : RepAt W X tk 0 0 (.slice (some ⟨g, 0, none⟩) 64 64) (.slice none 0 0)
  zs : W.heap[g]? = some (.cells (Re.zeroVals 64).toArray 5 (0, 0))
  idle : Idle B P G R t (m + 1) W
  sh : ShAt W SH D (.pointer (some ⟨P, 0, none⟩))
  kept : Kept tsAll B w W
theorem tell_later {w w' : World} {v : Value} {its : List Itm} (h : TellAt w v its) (hb : Below w.heap.size w w') : TellAt w' v its := by
  obtain ⟨p, c, hv, hh⟩ := h.form
  refine ⟨p, c, hv, fun hne => ?_⟩
  obtain ⟨b, o, hp, hlt, hall⟩ := hh hne
  exact ⟨b, o, hp, Nat.lt_of_lt_of_le hlt hb.size, fun j it hj => (hall j it hj).below hb hlt⟩
theorem two_told {W : World} {X g : Nat} (hX : W.heap[X]? = some (.cells #[.iface 3 (.int .i64 0), .iface 22 (.slice (some ⟨g, 0, none⟩) 64 64)] 20 (0, 0))) (hz : W.heap[g]? = some (.cells (Re.zeroVals 64).toArray 5 (0, 0))) : TellAt W (.slice (some ⟨X, 0, none⟩) 2 2) [.num 0, .bytes zs64] := by
  refine ⟨_, _, rfl, fun _ => ⟨X, 0, rfl, lt_of_block hX, fun j it hj => ?_⟩⟩
  rcases (by have := (List.getElem?_eq_some_iff.1 hj).1; simp at this; omega : j = 0 ∨ j = 1) with rfl | rfl
  · obtain rfl := Option.some.inj hj
    exact ⟨⟨by decide, by decide⟩, blk_cell hX 0⟩
  · obtain rfl := Option.some.inj hj
    refine ⟨by rw [zs64_len]; decide, _, blk_cell hX 1, some ⟨g, 0, none⟩, 64, by rw [zs64_len], fun _ => ⟨g, 0, rfl, lt_of_block hz, fun k x hk => ?_⟩⟩
    have hk64 : k < 64 := by have := (List.getElem?_eq_some_iff.1 hk).1; rwa [zs64_len] at this
    unfold zs64 at hk
    rw [List.getElem?_replicate, if_pos hk64] at hk
    obtain rfl := Option.some.inj hk
    rw [blk_cell hz, Nat.zero_add, ← Array.getElem?_toList, List.toList_toArray]
    unfold Re.zeroVals
    rw [List.getElem?_replicate, if_pos hk64]
    rfl
theorem stepSt5 {B P G R SH D : Nat} {t m tk : Int} {w W : World} {X g : Nat} (hX : W.heap[X]? = some (.cells #[.int .i64 0, .int .i64 0, .int .i64 0, .slice none 0 0, .slice none 0 0] 67 (0, 0))) (hz : W.heap[g]? = some (.cells (Re.zeroVals 64).toArray 5 (0, 0)))
    (hi : Idle B P G R t (m + 1) W) (hs : ShAt W SH D (.pointer (some ⟨P, 0, none⟩))) (hk : Kept tsAll B w W) (h1 : w.heap.size ≤ X) (hB : B ≤ X) :
    StepSt B P G R SH D t m tk w (((((W.setCell ⟨X, 0, none⟩ (.int .i64 tk)).setCell ⟨X, 1, none⟩ (.int .i64 0)).setCell ⟨X, 2, none⟩ (.int .i64 0)).setCell ⟨X, 3, none⟩ (.slice (some ⟨g, 0, none⟩) 64 64)).setCell ⟨X, 4, none⟩ (.slice none 0 0)) X g := by
  have k0 := (Kept.refl [67] B W).set hX hB (by rfl) 0 (.int .i64 tk)
  have k1 := k0.set (blk_set hX 0 _) hB (by rfl) 1 (.int .i64 0)
  have k2 := k1.set (blk_set (blk_set hX 0 _) 1 _) hB (by rfl) 2 (.int .i64 0)
  have k3 := k2.set (blk_set (blk_set (blk_set hX 0 _) 1 _) 2 _) hB (by rfl) 3 (.slice (some ⟨g, 0, none⟩) 64 64)
  have k4 := k3.set (blk_set (blk_set (blk_set (blk_set hX 0 _) 1 _) 2 _) 3 _) hB (by rfl) 4 (.slice none 0 0)
  exact ⟨⟨five hX _ _ _ _ _⟩, k4.at hz (by rfl), hi.kept k4 (by rfl) (by rfl) (by rfl) (by rfl) (by rfl) (by rfl), hs.kept k4 (by rfl), kept5 hk h1 hB _ _ _ _ _⟩
set_option maxHeartbeats 8000000 in
theorem sdo_step {B SH D P G R : Nat} {w : World} {t m tk : Int} {p : Option Addr} {c : Nat} (hs : ShAt w SH D (.pointer (some ⟨P, 0, none⟩))) (htk : 1 ≤ tk) (htk2 : tk ≤ 100) (hm : m ≤ 1000) (hv : HasVol B P G R m w) (hg : GateAt B w G t [waitV 4 0 1 0 tk] p c)
    (hE : EnvOn B w) (hBw : B ≤ w.heap.size) :
    Calls Tryz.prog 8 #[.pointer (some ⟨SH, 0, none⟩), .agg #[.int .i64 4, .int .i64 1, .int .i64 0, .int .i64 0, .int .i64 0, .int .i64 0, .slice none 0 0, .slice none 0 0]] w fun e w' => (e = .returned (.string (mkB (Lib.itoa tk ++ [32]) ++ okL [.num 0, .bytes zs64]))) ∧ ShAt w' SH D (.pointer (some ⟨P, 0, none⟩)) ∧ Idle B P G R t (m + 1) w' ∧ Kept tsAll B w w' := by
  have hbb : Below w.heap.size w (w.alloc (.cells #[.int .i64 4, .int .i64 1, .int .i64 0, .int .i64 0, .int .i64 0, .int .i64 0, .slice none 0 0, .slice none 0 0] 34)) := (Below.refl _ _).alloc (Nat.le_refl _) _
  have HA0 := Lib.hid (ActAt.mk (blk_new w #[.int .i64 4, .int .i64 1, .int .i64 0, .int .i64 0, .int .i64 0, .int .i64 0, .slice none 0 0, .slice none 0 0] 34))
  have HS0 := Lib.hid (hs.below hbb)
  have HL0 : Hid (Kept tsAll B w (w.alloc (.cells #[.int .i64 4, .int .i64 1, .int .i64 0, .int .i64 0, .int .i64 0, .int .i64 0, .slice none 0 0, .slice none 0 0] 34))) := Lib.hid (Kept.of hbb hBw)
  have HE := Lib.hid hE
  have HBw := Lib.hid hBw
  have KL := Lib.hid (fun (W : World) (hb : Below B w W) => line_act 4 1 0 0 0 0 (i64_small _ (by decide) (by decide)) (i64_small _ (by decide) (by decide)) (i64_small _ (by decide) (by decide)) (i64_small _ (by decide) (by decide)) rfl W (hE W hb))
  have HV0 := Lib.hid (show HasVol B P G R m (w.alloc (.cells #[.int .i64 4, .int .i64 1, .int .i64 0, .int .i64 0, .int .i64 0, .int .i64 0, .slice none 0 0, .slice none 0 0] 34)) from by obtain ⟨T, x, h1, h2⟩ := hv; exact ⟨T, x, h1.below hbb, h2⟩)
  have HG0 := Lib.hid (hg.below hbb)
  have KS := Lib.hid (fun (W : World) (h1 : HasVol B P G R m W) (h3 : GateAt B W G t [waitV 4 0 1 0 tk] p c) => pstep_read 1 (by decide) (by decide) hm h1 h3)
  have KI := Lib.hid (fun (W : World) (hb : Below B w W) => itoa_c tk (by omega) (by omega) W (hE W hb))
  have hz : (tk == 0) = false := by simp; omega
  have KA := Lib.hid (fun (W : World) (v : Value) (hb : Below B w W) (htl : TellAt W v [.num 0, .bytes zs64]) => answer_ok v [.num 0, .bytes zs64] W (hE W hb) htl (by show 2 ≤ 100; decide))
  have HTK := Lib.hid (show (Lib.itoa tk).length ≤ 64 from itoa_len tk (by omega) (by omega))
  clear hs hbb hE hBw hv hg htk htk2 hm
  go_enter Tryz.func8, Tryz.ntmps8
  go_upto_region 1 with fail
  generalize (w.alloc (.cells #[.int .i64 4, .int .i64 1, .int .i64 0, .int .i64 0, .int .i64 0, .int .i64 0, .slice none 0 0, .slice none 0 0] 34)) = w0 at *
  obtain ⟨b0, b1, b2, b3, b4, b5, b6, b7⟩ := HA0.out.cells
  go_upto_region 25 with (go_at_call 7; (with_reducible refine (KL.out _ HL0.out.below).mono ?_); rintro e w1 ⟨sx, rfl, hb1⟩; have HA1 := Lib.hid (HA0.out.below hb1); have HS1 := Lib.hid (HS0.out.below hb1); have HL1 := Lib.hid (HL0.out.step hb1 (Nat.le_trans HBw.out HL0.out.size)); have HV1 := Lib.hid (show HasVol B P G R m w1 from by obtain ⟨T, x, h1, h2⟩ := HV0.out; exact ⟨T, x, h1.below hb1, h2⟩); have HG1 := Lib.hid (HG0.out.below hb1); clear hb1; clear b0 b1 b2 b3 b4 b5 b6 b7; obtain ⟨b0, b1, b2, b3, b4, b5, b6, b7⟩ := HA1.out.cells; obtain ⟨c0, c1, f1⟩ := HS1.out.cells)
  have HVD := Lib.hid (show HasVol B P G R m w1.drew from by obtain ⟨T, x, h1, h2⟩ := HV1.out; exact ⟨T, x, h1.drew, h2⟩)
  have HGD := Lib.hid HG1.out.drew
  have HLD := Lib.hid HL1.out.drew
  have HSD : Hid (ShAt w1.drew SH D (.pointer (some ⟨P, 0, none⟩))) := Lib.hid ⟨HS1.out.blk⟩
  have hcat : Hid ((mkB (Lib.itoa tk) ++ (⟨#[32]⟩ : ByteArray)) ++ okL [.num 0, .bytes zs64] = mkB (Lib.itoa tk ++ [32]) ++ okL [.num 0, .bytes zs64]) := Lib.hid (by rw [show (⟨#[32]⟩ : ByteArray) = mkB [32] from rfl, mkB_app])
  have hsz0 : Hid ((mkB (Lib.itoa tk)).size ≤ 64) := Lib.hid (by rw [mkB_size]; exact HTK.out)
  have hsz1 : Hid ((okL [.num 0, .bytes zs64]).size ≤ 140737488355328) := Lib.hid (by
    show (mkB _).size ≤ _
    rw [mkB_size]
    refine join_small _ (by show 2 ≤ 100; decide) (fun it hit => ?_)
    simp at hit
    rcases hit with rfl | rfl
    · exact ⟨by decide, by decide⟩
    · show zs64.length ≤ 1000
      rw [zs64_len]; decide)
  have hw1 : w.heap.size ≤ w1.heap.size := HL1.out.size
  have hba : Below w1.heap.size w1 (w1.alloc (.cells #[.int .i64 0, .int .i64 0, .int .i64 0, .slice none 0 0, .slice none 0 0] 67)) := (Below.refl _ _).alloc (Nat.le_refl _) _
  have HVA := Lib.hid (show HasVol B P G R m (w1.alloc (.cells #[.int .i64 0, .int .i64 0, .int .i64 0, .slice none 0 0, .slice none 0 0] 67)).drew from by obtain ⟨T, x, h1, h2⟩ := HV1.out; exact ⟨T, x, (h1.below hba).drew, h2⟩)
  have HGA := Lib.hid (HG1.out.below hba).drew
  have HLA := Lib.hid (HL1.out.step hba (Nat.le_trans HBw.out HL1.out.size)).drew
  have HSA : Hid (ShAt (w1.alloc (.cells #[.int .i64 0, .int .i64 0, .int .i64 0, .slice none 0 0, .slice none 0 0] 67)).drew SH D (.pointer (some ⟨P, 0, none⟩))) := Lib.hid ⟨(HS1.out.below hba).blk⟩
  have HRA : Hid ((w1.alloc (.cells #[.int .i64 0, .int .i64 0, .int .i64 0, .slice none 0 0, .slice none 0 0] 67)).drew.heap[w1.heap.size]? = some (.cells #[.int .i64 0, .int .i64 0, .int .i64 0, .slice none 0 0, .slice none 0 0] 67 (0, 0))) := Lib.hid (blk_new w1 #[.int .i64 0, .int .i64 0, .int .i64 0, .slice none 0 0, .slice none 0 0] 67)
  clear hba
  have hLm := lt_of_block HA1.out.blk
  have hLs := lt_of_block HS1.out.blk
  clear KL
  go_cut [11, 12] from 114 to 123 (fun s11 s12 wx => s12 = .bool true ∧ ∃ X g, s11 = .pointer (some ⟨X, 0, none⟩) ∧ Hid (StepSt B P G R SH D t m tk w wx X g))
  case first =>
    go_region_with (first
      | (go_at_call 26; (refine (KS.out w1.drew HVD.out HGD.out).mono ?_); rintro e w2 ⟨d, rfl, hz2, hi, hk2⟩; obtain ⟨g, rfl, hgz⟩ := hz2.sec; have HZ2 := Lib.hid hgz; have HI2 := Lib.hid hi; have HL2 := Lib.hid (HLD.out.trans hk2); have HS2 := Lib.hid (HSD.out.kept hk2 (by rfl)); clear hz2 hgz hi hk2)
      | (go_at_call 26; (refine (KS.out (w1.alloc (.cells #[.int .i64 0, .int .i64 0, .int .i64 0, .slice none 0 0, .slice none 0 0] 67)).drew HVA.out HGA.out).mono ?_); rintro e w2 ⟨d, rfl, hz2, hi, hk2⟩; obtain ⟨g, rfl, hgz⟩ := hz2.sec; have HZ2 := Lib.hid hgz; have HI2 := Lib.hid hi; have HL2 := Lib.hid (HLA.out.trans hk2); have HS2 := Lib.hid (HSA.out.kept hk2 (by rfl)); have HR2 := Lib.hid (hk2.at HRA.out (by rfl)); have s0 := blk_cell HR2.out 0; have s1 := blk_cell HR2.out 1; have s2 := blk_cell HR2.out 2; have s3 := blk_cell HR2.out 3; have s4 := blk_cell HR2.out 4; have t0 := blk_free HR2.out 0; have t1 := blk_free HR2.out 1; have t2 := blk_free HR2.out 2; have t3 := blk_free HR2.out 3; have t4 := blk_free HR2.out 4; clear hz2 hgz hi hk2))
    all_goals (
      first
        | (have HQ : Hid (StepSt B P G R SH D t m tk w (w2.alloc (.cells #[.int .i64 tk, .int .i64 0, .int .i64 0, .slice (some ⟨g, 0, none⟩) 64 64, .slice none 0 0] 67)) w2.heap.size g) := Lib.hid ⟨⟨blk_new _ _ _⟩, blk_old HZ2.out _, HI2.out.below ((Below.refl _ _).alloc (Nat.le_refl _) _), HS2.out.below ((Below.refl _ _).alloc (Nat.le_refl _) _), HL2.out.alloc (Nat.le_trans HBw.out HL2.out.size) _⟩
           go_wp2_with fail
           go_meet
           case rel => exact ⟨rfl, _, _, rfl, HQ⟩)
        | (have hB1 : B ≤ w1.heap.size := Nat.le_trans HBw.out hw1
           have HQ : Hid (StepSt B P G R SH D t m tk w (((((w2.setCell ⟨w1.heap.size, 0, none⟩ (.int .i64 tk)).setCell ⟨w1.heap.size, 1, none⟩ (.int .i64 0)).setCell ⟨w1.heap.size, 2, none⟩ (.int .i64 0)).setCell ⟨w1.heap.size, 3, none⟩ (.slice (some ⟨g, 0, none⟩) 64 64)).setCell ⟨w1.heap.size, 4, none⟩ (.slice none 0 0)) w1.heap.size g) := Lib.hid (stepSt5 HR2.out HZ2.out HI2.out HS2.out HL2.out hw1 hB1)
           go_wp2_with fail
           go_meet
           case rel => exact ⟨rfl, _, _, rfl, HQ⟩))
  case rest =>
    clear b0 b1 b2 b3 b4 b5 b6 b7 c0 c1 f1 hLm hLs hw1
    obtain ⟨rfl, X, g, rfl, HQ⟩ := hcut
    clear HA0 HS0 HL0 HV0 HG0 HA1 HS1 HL1 HV1 HG1 HVD HGD HLD HSD HVA HGA HLA HSA HRA KS
    have a0 := blk_cell HQ.out.rep.blk 0
    have a1 := blk_cell HQ.out.rep.blk 1
    have a2 := blk_cell HQ.out.rep.blk 2
    have a3 := blk_cell HQ.out.rep.blk 3
    have a4 := blk_cell HQ.out.rep.blk 4
    have e0 : wc.cell? ⟨X, 0, none⟩ = some (.int .i64 tk) := a0
    have e1 : wc.cell? ⟨X, 1, none⟩ = some (.int .i64 0) := a1
    have e2 : wc.cell? ⟨X, 2, none⟩ = some (.int .i64 0) := a2
    have e3 : wc.cell? ⟨X, 3, none⟩ = some (.slice (some ⟨g, 0, none⟩) 64 64) := a3
    have e4 : wc.cell? ⟨X, 4, none⟩ = some (.slice none 0 0) := a4
    clear a0 a1 a2 a3 a4
    have hLX : X < wc.heap.size := lt_of_block HQ.out.rep.blk
    go_upto_region 34 with fail
    clear hLX
    have hn := blk_new wc #[.iface 3 (.int .i64 0), .iface 22 (.slice (some ⟨g, 0, none⟩) 64 64)] 20
    have hz5 := blk_old HQ.out.zs (.cells #[.iface 3 (.int .i64 0), .iface 22 (.slice (some ⟨g, 0, none⟩) 64 64)] 20)
    have HT := Lib.hid (show TellAt (wc.alloc (.cells #[.iface 3 (.int .i64 0), .iface 22 (.slice (some ⟨g, 0, none⟩) 64 64)] 20)) (.slice (some ⟨wc.heap.size, 0, none⟩) 2 2) [.num 0, .bytes zs64] from two_told hn hz5)
    have HB5 : Hid (Below wc.heap.size wc (wc.alloc (.cells #[.iface 3 (.int .i64 0), .iface 22 (.slice (some ⟨g, 0, none⟩) 64 64)] 20))) := Lib.hid ((Below.refl _ _).alloc (Nat.le_refl _) _)
    have HI6 := Lib.hid (HQ.out.idle.below HB5.out)
    have HS6 := Lib.hid (HQ.out.sh.below HB5.out)
    have HK6 := Lib.hid (HQ.out.kept.step HB5.out (Nat.le_trans HBw.out HQ.out.kept.size))
    have HR6 := Lib.hid (HQ.out.rep.below HB5.out)
    clear hn hz5 e0 e1 e2 e3 e4
    go_loopg [13, 15, 154] 1 (fun gg s13 _ s154 wr => gg = 1 ∧ s13 = .slice (some ⟨wc.heap.size, 0, none⟩) 2 2 ∧ s154 = .int .i64 0 ∧ wr = (wc.alloc (.cells #[.iface 3 (.int .i64 0), .iface 22 (.slice (some ⟨g, 0, none⟩) 64 64)] 20)))
    case atStart => exact ⟨rfl, rfl, rfl, rfl⟩
    case round =>
      obtain ⟨_, rfl, rfl, rfl⟩ := hrel
      generalize (wc.alloc (.cells #[.iface 3 (.int .i64 0), .iface 22 (.slice (some ⟨g, 0, none⟩) 64 64)] 20)) = w6 at *
      have e0 : w6.cell? ⟨X, 0, none⟩ = some (.int .i64 tk) := blk_cell HR6.out.blk 0
      have n1 : ¬ 9223372036854775807 < (mkB (Lib.itoa tk)).size + (⟨#[32]⟩ : ByteArray).size := by
        have := hsz0.out
        have h1 : (⟨#[32]⟩ : ByteArray).size = 1 := rfl
        omega
      have n2 : ¬ 9223372036854775807 < (mkB (Lib.itoa tk)).size + 1 := by
        have := hsz0.out
        omega
      have n3 : ¬ 9223372036854775807 < ((mkB (Lib.itoa tk)) ++ (⟨#[32]⟩ : ByteArray)).size + (okL [.num 0, .bytes zs64]).size := by
        have h0 := hsz0.out
        have h2 := hsz1.out
        have h1 : ((mkB (Lib.itoa tk)) ++ (⟨#[32]⟩ : ByteArray)).size = (mkB (Lib.itoa tk)).size + 1 := by rw [ByteArray.size_append]; rfl
        omega
      have n4 : ¬ 9223372036854775807 < (mkB (Lib.itoa tk)).size + 1 + (okL [.num 0, .bytes zs64]).size := by
        have h0 := hsz0.out
        have h2 := hsz1.out
        omega
      have n5 : ¬ 9223372036854775807 < (mkB (Lib.itoa tk)).size + (⟨#[32]⟩ : ByteArray).size + (okL [.num 0, .bytes zs64]).size := by
        have h0 := hsz0.out
        have h2 := hsz1.out
        have h1 : (⟨#[32]⟩ : ByteArray).size = 1 := rfl
        omega
      have KI' := Lib.hid (KI.out w6 HK6.out.below)
      go_wp2_with (first
        | (go_at_call 15; (refine KI'.out.mono ?_); rintro e w7 ⟨rfl, hb7⟩; rw [show (⟨(Lib.itoa tk).toArray⟩ : ByteArray) = mkB (Lib.itoa tk) from rfl]; have HK7 := Lib.hid (HK6.out.step hb7 (Nat.le_trans HBw.out HK6.out.size)); have HT7 := Lib.hid (tell_later HT.out hb7); have HI7 := Lib.hid (HI6.out.below hb7); have HS7 := Lib.hid (HS6.out.below hb7); clear hb7)
        | (go_at_call 18; (refine (KA.out _ _ HK7.out.below HT7.out).mono ?_); rintro e w8 ⟨rfl, hb8⟩))
      refine bodyPost_ret (results_tmp rfl _ _ _) rfl ?_
      exact ⟨congrArg (fun x => Ending.returned (Value.string x)) hcat.out, HS7.out.below hb8, HI7.out.below hb8, HK7.out.step hb8 (Nat.le_trans HBw.out HK7.out.size)⟩
end Go.Proofs.YtjohhjdicbeojaaGreatDoor.Vv
