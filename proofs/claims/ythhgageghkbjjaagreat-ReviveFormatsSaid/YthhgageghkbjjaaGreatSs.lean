/- slate.Save of the empty state on a device. -/
import Derived.Test.YthhgageghkbjjaaGreatSq
namespace Go.Proofs.YthhgageghkbjjaaGreat.Ss
open Go.RowKit Go.Proofs.YthhgageghkbjjaaGreat.Ra Go.Proofs.YthhgageghkbjjaaGreat.Rc Go.Proofs.YthhgageghkbjjaaGreat.Re Go.Proofs.YthhgageghkbjjaaGreat.Rf Go.Proofs.YthhgageghkbjjaaGreat.Rg Go.Proofs.YthhgageghkbjjaaGreat.Rh Go.Proofs.YthhgageghkbjjaaGreat.Ri Go.Proofs.YthhgageghkbjjaaGreat.Rj Go.Proofs.YthhgageghkbjjaaGreat.Rk Go.Proofs.YthhgageghkbjjaaGreat.Rl Go.Proofs.YthhgageghkbjjaaGreat.Rn Go.Proofs.YthhgageghkbjjaaGreat.Ro Go.Proofs.YthhgageghkbjjaaGreat.Rp Go.Proofs.YthhgageghkbjjaaGreat.Rq Go.Proofs.YthhgageghkbjjaaGreat.Rz Go.Proofs.YthhgageghkbjjaaGreat.Sf Go.Proofs.YthhgageghkbjjaaGreat.Sg Go.Proofs.YthhgageghkbjjaaGreat.Sh Go.Proofs.YthhgageghkbjjaaGreat.Sj
set_option maxRecDepth 8000

theorem bytes_base {B : Nat} {w : World} {v : Value} {l : List UInt8} (h : BytesIn 0 w v l) : BytesIn B w v l := by
  obtain ⟨p, c, hv, hcap, hp⟩ := h
  refine ⟨p, c, hv, hcap, fun hl => ?_⟩
  obtain ⟨b, o, hp, hlt, hsf, hc⟩ := hp hl
  exact ⟨b, o, hp, hlt, hsf.elim (fun h => absurd h (Nat.not_lt_zero _)) .inr, hc⟩
theorem wr_one {B : Nat} {w : World} {at_ : Int} {v : Value} {l : List UInt8} (hB : B ≤ w.heap.size) (h : BytesIn B w v l) : WritesIn B (w.alloc (.cells #[.int .i64 at_, v] 46)) (.slice (some ⟨w.heap.size, 0, none⟩) 1 1) [⟨at_, v, l⟩] := by
  have hb := blk_new w #[.int .i64 at_, v] 46
  refine ⟨⟨_, _, rfl, fun _ => ⟨_, 0, rfl, lt_of_block hb, .inr ⟨_, hb, rfl⟩, fun j x hj => ?_⟩⟩, fun x hx => ?_⟩
  · match j, hj with
    | 0, hj =>
      obtain rfl := Option.some.inj hj
      exact ⟨blk_cell hb 0, blk_cell hb 1⟩
  · obtain rfl : x = ⟨at_, v, l⟩ := by simpa using hx
    exact h.step ((Step.refl B w).alloc hB _)

/-- The device behind Save. -/
def savedDev (s b : Int) (d : Dev) : Dev := flushed (putAll (flushed (putAll d [⟨13, .slice none 0 0, closeL leafL⟩])) [⟨12, .slice none 0 0, closeL (headL s b)⟩])
theorem putAll_v (d : Dev) (a : Int) (v u : Value) (l : List UInt8) : putAll d [⟨a, v, l⟩] = putAll d [⟨a, u, l⟩] := rfl
theorem flushed_on {d : Dev} (h : OnDev d) : OnDev (flushed d) := ⟨h.off, h.after⟩
theorem putAll_on {d : Dev} (h : OnDev d) (x : Wr) : OnDev (putAll d [x]) := ⟨h.off, h.after⟩

set_option maxHeartbeats 4000000 in
theorem save_c {B : Nat} {w : World} {D S N : Nat} {lv : Value} {d : Dev} {s b : Int} (hm : MayP s b) (h : DevAt B w D S N lv d) (hd : OnDev d) (hn : 14 ≤ d.n) (hfew : d.loose.length + 1 ≤ 100000) :
    Calls Tryz.prog 26 #[.pointer (some ⟨D, 0, none⟩), .agg emptyCells, .agg #[.int .i64 s, .int .i64 b], .int .i64 1] w fun e w' => e = .returned (.int .i64 0) ∧ (∃ lv', DevAt B w' D S N lv' (savedDev s b d)) ∧ Step B w w' := by
  have H0 := Lib.hid (Boxes.start s b w)
  have HD0 := Lib.hid (h.later H0.out.2.2)
  have HBW : Hid (B ≤ w.heap.size) := Lib.hid h.size
  have KE := Lib.hid (fun (W : World) => encode_c s b hm W)
  have KP1 := Lib.hid (fun (W : World) (v u : Value) (lv : Value) (hW : DevAt B W D S N lv d) (hw : WritesIn B W v [⟨13, u, closeL leafL⟩]) => put_c hW hd v _ hw (fun x hx => by
    obtain rfl : x = ⟨13, u, closeL leafL⟩ := by simpa using hx
    exact ⟨leaf_len, by show (0 : Int) ≤ 13; decide, by show (13 : Int) < (d.n : Int); omega⟩) hfew)
  have KF1 := Lib.hid (fun (W : World) (lv u : Value) (hW : DevAt B W D S N lv (putAll d [⟨13, u, closeL leafL⟩])) => flush_c hW (putAll_on hd _))
  have KP2 := Lib.hid (fun (W : World) (v u u' : Value) (lv : Value) (hW : DevAt B W D S N lv (flushed (putAll d [⟨13, u', closeL leafL⟩]))) (hw : WritesIn B W v [⟨12, u, closeL (headL s b)⟩]) => put_c hW (flushed_on (putAll_on hd _)) v _ hw (fun x hx => by
    obtain rfl : x = ⟨12, u, closeL (headL s b)⟩ := by simpa using hx
    exact ⟨headc_len s b, by show (0 : Int) ≤ 12; decide, by show (12 : Int) < (d.n : Int); omega⟩) (by show 0 + 1 ≤ 100000; decide))
  have KF2 := Lib.hid (fun (W : World) (lv u u' : Value) (hW : DevAt B W D S N lv (putAll (flushed (putAll d [⟨13, u', closeL leafL⟩])) [⟨12, u, closeL (headL s b)⟩])) => flush_c hW (putAll_on (flushed_on (putAll_on hd _)) _))
  have hDl := h.lt
  clear h hd hm hfew hn
  go_enter Tryz.func26, Tryz.ntmps26
  go_upto_region 1 with fail
  generalize ((w.alloc (.cells emptyCells 30)).alloc (.cells #[.int .i64 s, .int .i64 b] 23)) = w0 at *
  obtain ⟨p0, p1⟩ := H0.out.plat
  have HS0 : Hid (Step B w w0) := Lib.hid (Step.of H0.out.2.2 HBW.out)
  go_upto_region 7 with (first
    | (refine wpList_load_row rfl 30 (.tmp 5) rfl w.heap.size rfl _ emptyCells _ _ H0.out.1 Tryz.underlying30 rfl sizeE' ?_)
    | (go_at_call 50; (with_reducible refine (KE.out _).mono ?_); rintro e w1 ⟨pv, rfl, hpv, hb1⟩; obtain ⟨g, cap, cs, u0, u1, rfl, hcap, hgb, hc0, hc1, hs0, hs1⟩ := hpv; have HB1 := Lib.hid hb1; clear hb1)
    | (go_at_call 38; (with_reducible refine (area_1 _).mono ?_); rintro e w3 ⟨rfl, rfl⟩))
  have q0 : w1.cell? ⟨g, 0, none⟩ = some u0 := (blk_cell hgb 0).trans hc0
  have q1 : w1.cell? ⟨g, 1, none⟩ = some u1 := (blk_cell hgb 1).trans hc1
  have HU0 : Hid (BytesIn B w1 u0 (closeL (headL s b))) := Lib.hid (bytes_base hs0.bytes)
  have HU1 : Hid (BytesIn B w1 u1 (closeL leafL)) := Lib.hid (bytes_base hs1.bytes)
  obtain ⟨c0, _, ⟨c0', rfl, _⟩, _⟩ := hs0
  obtain ⟨c1, _, ⟨c1', rfl, _⟩, _⟩ := hs1
  have HGB := Lib.hid hgb
  have HD1 := Lib.hid (HD0.out.later HB1.out)
  have HS1 : Hid (Step B w w1) := Lib.hid (HS0.out.trans (Step.of HB1.out (Nat.le_trans HBW.out HS0.out.size)))
  have HC0 := Lib.hid hc0
  have nc2 : (2 : Int) ≤ (cap : Int) := by omega
  have ncz : ¬ cap - 1 = 0 := by omega
  have nc3 : (1 : Int) ≤ ((cap - 1 : Nat) : Int) := by omega
  have nc1 : (1 : Int) ≤ (cap : Int) := by omega
  clear hgb hc0 hc1 hcap
  go_wp2_with (fail)
  go_loopg [34] (2) (fun gg s34 wr => (gg = 2 ∧ s34 = .int .i64 0 ∧ wr = w1) ∨ (gg = 1 ∧ s34 = .int .i64 1 ∧ Hid ((∃ lv', DevAt B wr D S N lv' (putAll d [⟨13, .slice (some ⟨c1, 0, none⟩) 64 c1', closeL leafL⟩])) ∧ Step B w1 wr)))
  case atStart => exact .inl ⟨rfl, rfl, rfl⟩
  case round =>
    rcases hrel with ⟨rfl, rfl, rfl⟩ | ⟨rfl, rfl, HR⟩
    · have HDa : Hid (DevAt B (wr.alloc (.cells #[.int .i64 13, .slice (some ⟨c1, 0, none⟩) 64 c1'] 46)) D S N lv d) := Lib.hid (HD1.out.later ((Below.refl _ _).alloc (Nat.le_refl _) _))
      have HWa := Lib.hid (wr_one (at_ := 13) HD1.out.size HU1.out)
      have HSa : Hid (Step B wr (wr.alloc (.cells #[.int .i64 13, .slice (some ⟨c1, 0, none⟩) 64 c1'] 46))) := Lib.hid ((Step.refl B wr).alloc HD1.out.size _)
      go_wp2_with (go_at_call 11; (with_reducible refine (KP1.out _ _ _ _ HDa.out HWa.out).mono ?_); rintro e w5 ⟨rfl, hd5, hs5⟩; have HR5 := Lib.hid (And.intro hd5 (HSa.out.trans hs5)); clear hd5 hs5)
      go_roundg (1)
      case measure => omega
      case rel => exact .inr ⟨rfl, by go_num, HR5⟩
    · obtain ⟨lv5, hd5⟩ := HR.out.1
      have HD5 := Lib.hid hd5
      have HK6 := Lib.hid (fun (W : World) (hs : Step B wr W) => (⟨(HR.out.2.trans hs).kept _ _ HGB.out rfl, HU0.out.step (HR.out.2.trans hs), HS1.out.trans (HR.out.2.trans hs)⟩ : W.heap[g]? = some (.cells cs 44 (0, 0)) ∧ BytesIn B W (.slice (some ⟨c0, 0, none⟩) 64 c0') (closeL (headL s b)) ∧ Step B w W))
      clear hd5
      go_upto_region 17 with (go_at_call 25; (with_reducible refine (KF1.out _ _ _ HD5.out).mono ?_); rintro e w6 ⟨rfl, hd6, hs6⟩; have HD6 := Lib.hid hd6; have HS6 := Lib.hid (HK6.out _ hs6); clear hd6 hs6)
      have q6 : w6.cell? ⟨g, 0, none⟩ = some (.slice (some ⟨c0, 0, none⟩) 64 c0') := (blk_cell HS6.out.1 0).trans HC0.out
      have HDb : Hid (DevAt B (w6.alloc (.cells #[.int .i64 12, .slice (some ⟨c0, 0, none⟩) 64 c0'] 46)) D S N (.slice none 0 0) (flushed (putAll d [⟨13, .slice (some ⟨c1, 0, none⟩) 64 c1', closeL leafL⟩]))) := Lib.hid (HD6.out.later ((Below.refl _ _).alloc (Nat.le_refl _) _))
      have HWb := Lib.hid (wr_one (at_ := 12) HD6.out.size HS6.out.2.1)
      have HSb : Hid (Step B w (w6.alloc (.cells #[.int .i64 12, .slice (some ⟨c0, 0, none⟩) 64 c0'] 46))) := Lib.hid (HS6.out.2.2.trans ((Step.refl B w6).alloc HD6.out.size _))
      clear HD5 HD6
      go_wp2_with (first
        | (go_at_call 11; (with_reducible refine (KP2.out _ _ _ _ _ HDb.out HWb.out).mono ?_); rintro e w7 ⟨rfl, ⟨lv7, hd7⟩, hs7⟩; have HD7 := Lib.hid hd7; have HS7 := Lib.hid (HSb.out.trans hs7); clear hd7 hs7)
        | (go_at_call 25; (with_reducible refine (KF2.out _ _ _ _ HD7.out).mono ?_); rintro e w8 ⟨rfl, hd8, hs8⟩; have HD8 := Lib.hid hd8; have HS8 := Lib.hid (HS7.out.trans hs8); clear hd8 hs8))
      go_ret
      exact ⟨rfl, ⟨_, HD8.out⟩, HS8.out⟩
end Go.Proofs.YthhgageghkbjjaaGreat.Ss
