/- The law ReviveFormats, walked. -/
import Derived.Test.YthhgageghkbjjaaGreatTa
namespace Go.Proofs.YthhgageghkbjjaaGreat.Tb
open Go.RowKit Go.Proofs.YthhgageghkbjjaaGreat.Ra Go.Proofs.YthhgageghkbjjaaGreat.Rc Go.Proofs.YthhgageghkbjjaaGreat.Re Go.Proofs.YthhgageghkbjjaaGreat.Rf Go.Proofs.YthhgageghkbjjaaGreat.Rh Go.Proofs.YthhgageghkbjjaaGreat.Rj Go.Proofs.YthhgageghkbjjaaGreat.Rk Go.Proofs.YthhgageghkbjjaaGreat.Rl Go.Proofs.YthhgageghkbjjaaGreat.Rm Go.Proofs.YthhgageghkbjjaaGreat.Rn Go.Proofs.YthhgageghkbjjaaGreat.Ro Go.Proofs.YthhgageghkbjjaaGreat.Rp Go.Proofs.YthhgageghkbjjaaGreat.Rq Go.Proofs.YthhgageghkbjjaaGreat.Sq Go.Proofs.YthhgageghkbjjaaGreat.Ss Go.Proofs.YthhgageghkbjjaaGreat.St Go.Proofs.YthhgageghkbjjaaGreat.Su Go.Proofs.YthhgageghkbjjaaGreat.Sw Go.Proofs.YthhgageghkbjjaaGreat.Sx Go.Proofs.YthhgageghkbjjaaGreat.Sy
set_option maxRecDepth 8000

theorem safe_base {B C : Nat} {w : World} {b : Nat} (h : Ra.Safe B w b) (hBC : B ≤ C) : Ra.Safe C w b := h.elim (fun h => .inl (Nat.lt_of_lt_of_le h hBC)) .inr
theorem bytesIn_base {B C : Nat} {w : World} {v : Value} {l : List UInt8} (h : BytesIn B w v l) (hBC : B ≤ C) : BytesIn C w v l := by
  obtain ⟨p, c, hv, hc, h⟩ := h
  refine ⟨p, c, hv, hc, fun hl => ?_⟩
  obtain ⟨b, o, hp, hlt, hs, hc⟩ := h hl
  exact ⟨b, o, hp, hlt, safe_base hs hBC, hc⟩
theorem writes_base {B C : Nat} {w : World} {v : Value} {ws : List Wr} (h : WritesIn B w v ws) (hBC : B ≤ C) : WritesIn C w v ws := by
  obtain ⟨⟨p, c, hv, h⟩, hx⟩ := h
  refine ⟨⟨p, c, hv, fun hl => ?_⟩, fun x hm => bytesIn_base (hx x hm) hBC⟩
  obtain ⟨b, o, hp, hlt, hs, hc⟩ := h hl
  exact ⟨b, o, hp, hlt, safe_base hs hBC, hc⟩
theorem crash_formed {s b : Int} {d : Dev} (h : Formed s b d) (hs : d.sure = d.now) : Formed s b (crashed d) := by
  refine ⟨rfl, h.big, ?_, ?_, ?_, ?_⟩
  · show secL d.sure 0 = _
    rw [hs]; exact h.z0
  · show secL d.sure 12 = _
    rw [hs]; exact h.h12
  · show secL d.sure 13 = _
    rw [hs]; exact h.l13
  · show secL d.sure 24 = _
    rw [hs]; exact h.z24

theorem saved_sure (s b : Int) (d : Dev) : (savedDev s b d).sure = (savedDev s b d).now := rfl
theorem crashed_n (d : Dev) : (crashed d).n = d.n := rfl
/-- The boxes of the two states and geometries, and the one of the argument. -/
structure Bxs (X M K : Nat) (s b : Int) (w W : World) : Prop where
  px : W.heap[X]? = some (.cells #[.int .i64 s, .int .i64 b] 23 (0, 0))
  s1 : W.heap[M]? = some (.cells emptyCells 30 (0, 0))
  p1 : W.heap[M + 1]? = some (.cells #[.int .i64 s, .int .i64 b] 23 (0, 0))
  s2 : W.heap[K]? = some (.cells emptyCells 30 (0, 0))
  p2 : W.heap[K + 1]? = some (.cells #[.int .i64 s, .int .i64 b] 23 (0, 0))
  below : Below w.heap.size w W
theorem Bxs.later {X M K : Nat} {s b : Int} {w W W' : World} (h : Bxs X M K s b w W) (hb : Below W.heap.size W W') : Bxs X M K s b w W' :=
  ⟨blk_below h.px hb (lt_of_block h.px), blk_below h.s1 hb (lt_of_block h.s1), blk_below h.p1 hb (lt_of_block h.p1), blk_below h.s2 hb (lt_of_block h.s2), blk_below h.p2 hb (lt_of_block h.p2), h.below.trans (hb.mono h.below.size)⟩

set_option maxHeartbeats 4000000 in
theorem formats_none (n s b : Int) (v : Value) (w : World) (hn : n < 1 ∨ 424 < n) : Calls Tryz.prog 5 #[.int .i64 n, .agg #[.int .i64 s, .int .i64 b], v] w fun e w' => e = .returned (.bool true) ∧ Below w.heap.size w w' := by
  have hbx := blk_new w #[.int .i64 s, .int .i64 b] 23
  have hb0 : Below w.heap.size w (w.alloc (.cells #[.int .i64 s, .int .i64 b] 23)) := (Below.refl _ _).alloc (Nat.le_refl _) _
  obtain ⟨w0, hw0⟩ : ∃ W, W = w.alloc (.cells #[.int .i64 s, .int .i64 b] 23) := ⟨_, rfl⟩
  rw [← hw0] at hbx hb0
  have HBX := Lib.hid hbx
  have HB0 := Lib.hid hb0
  have KN := Lib.hid (fun (W : World) => new_bad n W hn)
  have KA := Lib.hid (fun (W : World) => awake_c W)
  have KF := Lib.hid (fun (W : World) => format_nil s b W)
  clear hbx hb0 hn
  go_enter Tryz.func5, Tryz.ntmps5
  go_upto_region 1 with fail
  rw [← hw0]
  clear hw0
  go_wp2_with (first
    | (go_at_call 10; (with_reducible refine (KN.out _).mono ?_); rintro e w1 ⟨rfl, rfl⟩)
    | (go_at_call 7; (with_reducible refine (KA.out _).mono ?_); rintro e w3 ⟨rfl, hb3⟩; have HB3 := Lib.hid (HB0.out.trans (hb3.mono HB0.out.size)); have hx3 := blk_below HBX.out hb3 (lt_of_block HBX.out); have g0 : w3.cell? ⟨w.heap.size, 0, none⟩ = some (.int .i64 s) := blk_cell hx3 0; have g1 : w3.cell? ⟨w.heap.size, 1, none⟩ = some (.int .i64 b) := blk_cell hx3 1; clear hb3 hx3)
    | (go_at_call 9; (with_reducible refine (KF.out _).mono ?_); rintro e w6 ⟨rfl, hb6⟩; have HB6 := Lib.hid (HB3.out.trans (hb6.mono HB3.out.size)); clear hb6))
  go_ret
  exact ⟨rfl, HB6.out⟩

/-- What holds ahead of each round. -/
def Rnd (B D S N n j : Nat) (w1 W : World) : Prop := ∃ lv d, DevAt B W D S N lv d ∧ OnDev d ∧ d.n = n ∧ d.loose.length ≤ j ∧ Step B w1 W

set_option maxHeartbeats 8000000 in
theorem formats_some (n : Nat) (s b : Int) (v : Value) (ws : List Wr) (w : World) (h1 : 1 ≤ n) (h2 : n ≤ 424) (hv : WritesIn w.heap.size w v ws) : Calls Tryz.prog 5 #[.int .i64 (n : Int), .agg #[.int .i64 s, .int .i64 b], v] w fun e w' => e = .returned (.bool true) ∧ Below w.heap.size w w' := by
  have hbx := blk_new w #[.int .i64 s, .int .i64 b] 23
  have hb0 : Below w.heap.size w (w.alloc (.cells #[.int .i64 s, .int .i64 b] 23)) := (Below.refl _ _).alloc (Nat.le_refl _) _
  have hsz : (w.alloc (.cells #[.int .i64 s, .int .i64 b] 23)).heap.size = w.heap.size + 1 := sz_alloc _ _
  obtain ⟨w0, hw0⟩ : ∃ W, W = w.alloc (.cells #[.int .i64 s, .int .i64 b] 23) := ⟨_, rfl⟩
  rw [← hw0] at hbx hb0 hsz
  have HBX := Lib.hid hbx
  have HB0 := Lib.hid hb0
  have HWR0 := Lib.hid (writes_base (hv.step (Step.of hb0 (Nat.le_refl _))) (show w.heap.size ≤ w0.heap.size by omega))
  have HXB : Hid (w.heap.size < w0.heap.size) := Lib.hid (by omega)
  have KN := Lib.hid (fun (W : World) => new_c n W h1 h2)
  have KA := Lib.hid (fun (W : World) => awake_c W)
  have KM := Lib.hid (fun (W : World) => may_c s b W)
  have KS := Lib.hid (fun (W : World) => same_c W)
  have HN2 := Lib.hid h2
  have hst := store_new2
  obtain ⟨⟨pv, cv, rfl, -⟩, -⟩ := hv
  obtain ⟨L, hL⟩ : ∃ L, L = ws.length := ⟨_, rfl⟩
  rw [← hL] at HWR0 ⊢
  have HL := Lib.hid hL
  clear hbx hb0 h1 h2 hsz hL
  go_enter Tryz.func5, Tryz.ntmps5
  go_upto_region 1 with fail
  rw [← hw0]
  clear hw0
  go_upto_region 5 with (go_at_call 10; (with_reducible refine (KN.out _).mono ?_); rintro e w1 ⟨D, S, N, rfl, hd1, hb1⟩; have HD1 := Lib.hid hd1; have HB1 := Lib.hid hb1; clear hd1 hb1)
  have HWR1 := Lib.hid (HWR0.out.step (Step.of HB1.out (Nat.le_refl _)))
  have HBX1 := Lib.hid (blk_below HBX.out HB1.out HXB.out)
  have HB2 := Lib.hid (HB0.out.trans (HB1.out.mono HB0.out.size))
  have HXl := HXB.out
  generalize hBB : w0.heap.size = B at *
  clear hBB
  go_loopg [9] (51) (fun gg s9 wr => ∃ j : Nat, j ≤ 50 ∧ 50 - j < gg ∧ s9 = .int .i64 (j : Int) ∧ Hid (Rnd B D S N n j w1 wr))
  case atStart => exact ⟨0, by omega, by omega, rfl, Lib.hid ⟨_, _, HD1.out, new_on n, rfl, Nat.le_refl _, Step.refl _ _⟩⟩
  case round =>
    obtain ⟨j, hj, hgg, rfl, HR⟩ := hrel
    by_cases hlt : j < L ∧ j < 50
    · obtain ⟨ha, hb⟩ := hlt
      have hil : (j : Int) < (L : Int) := by omega
      have hib : (j : Int) < 50 := by omega
      obtain ⟨lv, d, hd, hon, hdn, hfew, hst⟩ := HR.out
      obtain ⟨x, hx⟩ : ∃ x, ws[j]? = some x := ⟨_, List.getElem?_eq_getElem (by rw [← HL.out]; exact ha)⟩
      have hv2 := HWR1.out.step hst
      obtain ⟨⟨p', c', hv', hp'⟩, hbs⟩ := hv2
      obtain ⟨rfl, rfl⟩ : pv = p' ∧ cv = c' := by
        have := HL.out
        simpa using (by rw [← this] at hv'; simpa using hv' : pv = p' ∧ cv = c')
      obtain ⟨b0, o, rfl, _, _, hc⟩ := hp' (fun e => by rw [e] at hx; cases hx)
      obtain ⟨cx, cy⟩ := hc j x hx
      have HBY := Lib.hid (hbs x (List.mem_of_getElem? hx))
      have HDa : Hid (DevAt B (wr.alloc (.cells #[.int .i64 x.at_, x.v] 46)) D S N lv d) := Lib.hid (hd.later ((Below.refl _ _).alloc (Nat.le_refl _) _))
      have HWa := Lib.hid (wr_one (at_ := x.at_) hd.size HBY.out)
      have HSa : Hid (Step B w1 (wr.alloc (.cells #[.int .i64 x.at_, x.v] 46))) := Lib.hid (hst.trans ((Step.refl B wr).alloc hd.size _))
      have KP := Lib.hid (fun (W : World) (u : Value) (h : DevAt B W D S N lv d) (hw : WritesIn B W u [x]) => put1_c h hon u x hw (by omega))
      have HN' := Lib.hid (fun (W : World) (k : (∃ lv', DevAt B W D S N lv' (put1 d x)) ∧ Step B w1 W) => (⟨_, _, k.1.choose_spec, put1_on hon x, (put1_n d x).trans hdn, Nat.le_trans (put1_loose d x) (Nat.succ_le_succ hfew), k.2⟩ : Rnd B D S N n (j + 1) w1 W))
      obtain ⟨pq, cq, hxv, _⟩ := HBY.out.form
      obtain ⟨at_, xv, xl⟩ := x
      simp only at hxv cx cy HDa HWa HSa HBY
      subst hxv
      clear hc hp' hv' hx hbs hd hon hdn hfew hst
      go_wp2_with (go_at_call 11; (with_reducible refine (KP.out _ _ HDa.out HWa.out).mono ?_); rintro e w5 ⟨⟨kk, rfl⟩, hd5, hs5⟩; have HR5 := Lib.hid (HN'.out _ ⟨hd5, HSa.out.trans hs5⟩); clear hd5 hs5)
      go_roundg (50 - (j + 1) + 1)
      case measure => omega
      case rel => exact ⟨j + 1, by omega, by omega, by go_num, HR5⟩
    · obtain ⟨lv, d, hd, hon, hdn, hfew, hst⟩ := HR.out
      have hcmp : (¬ (j : Int) < (L : Int)) ∨ ((j : Int) < (L : Int) ∧ ¬ (j : Int) < 50) := by omega
      have hxr := blk_below HBX1.out hst.below HXl
      have HBXr := Lib.hid hxr
      have p0 : wr.cell? ⟨w.heap.size, 0, none⟩ = some (.int .i64 s) := blk_cell hxr 0
      have p1 : wr.cell? ⟨w.heap.size, 1, none⟩ = some (.int .i64 b) := blk_cell hxr 1
      have HBr := Lib.hid (HB2.out.trans (hst.below.mono (Nat.le_of_lt HXl)))
      have HD := Lib.hid hd
      clear hxr hst hd HXl HR
      by_cases hm : MayP s b
      · obtain ⟨m1, m2, m3, m4⟩ := hm
        have hsb1 : 0 ≤ s * b := Int.mul_nonneg (by omega) (by omega)
        have hsb2 : s * b ≤ 24 * 16 := Int.mul_le_mul m2 m4 (by omega) (by omega : (0 : Int) ≤ 24)
        have hm : MayP s b := ⟨m1, m2, m3, m4⟩
        have KM' := Lib.hid (fun (W : World) => (by have k := KM.out W; rw [decide_eq_true hm] at k; exact k : Calls Tryz.prog 16 #[.agg #[.int .i64 s, .int .i64 b]] W fun e w' => e = .returned (.bool true) ∧ Below W.heap.size W w'))
        clear m1 m2 m3 m4
        by_cases hsz : (n : Int) < 40 + s * b
        · have KF := Lib.hid (format_small hm HD.out (by rw [hdn]; exact hsz))
          clear hon hdn hfew hm
          generalize hmm : s * b = m at *
          rcases hcmp with hil | ⟨hil, hib⟩
          all_goals (
            go_wp2_with (first
              | (go_at_call 9; (with_reducible refine KF.out.mono ?_); rintro e w6 ⟨rfl, hb6⟩; have HB6 := Lib.hid (HBr.out.trans (hb6.mono HBr.out.size)); have hx6 := blk_below HBXr.out hb6 (lt_of_block HBXr.out); have HX6 := Lib.hid hx6; have g0 : w6.cell? ⟨w.heap.size, 0, none⟩ = some (.int .i64 s) := blk_cell hx6 0; have g1 : w6.cell? ⟨w.heap.size, 1, none⟩ = some (.int .i64 b) := blk_cell hx6 1; clear hb6 hx6)
              | (go_at_call 16; (with_reducible refine (KM'.out _).mono ?_); rintro e w7 ⟨rfl, hb7⟩; have HB7 := Lib.hid (HB6.out.trans (hb7.mono HB6.out.size)); have hx7 := blk_below HX6.out hb7 (lt_of_block HX6.out); have k0 : w7.cell? ⟨w.heap.size, 0, none⟩ = some (.int .i64 s) := blk_cell hx7 0; have k1 : w7.cell? ⟨w.heap.size, 1, none⟩ = some (.int .i64 b) := blk_cell hx7 1; clear hb7 hx7)
              | (go_at_call 7; (with_reducible refine (KA.out _).mono ?_); rintro e w8 ⟨rfl, hb8⟩; have HB8 := Lib.hid (HB7.out.trans (hb8.mono HB7.out.size)); clear hb8))
            go_ret
            exact ⟨rfl, HB8.out⟩)
        · have hge : 40 + s * b ≤ (d.n : Int) := by rw [hdn]; omega
          have hbig : 40 ≤ d.n := by omega
          have hfd := formed (d := d) HD.out.lnow hon hbig s b
          have hfn : 40 + s * b ≤ ((savedDev s b (fmtK d 16)).n : Int) := by rw [saved_n, fmtK_n]; exact hge
          have hfn2 : 40 + s * b ≤ ((crashed (savedDev s b (fmtK d 16))).n : Int) := by rw [crashed_n]; exact hfn
          have hcf := crash_formed hfd (saved_sure s b _)
          have KF := Lib.hid (format_c hm HD.out hon hge (by omega))
          generalize savedDev s b (fmtK d 16) = d2 at *
          have KO := Lib.hid (fun (W : World) (lv : Value) (h : DevAt B W D S N lv d2) => open_c hm h hfd hfn)
          have KC := Lib.hid (fun (W : World) (lv : Value) (h : DevAt B W D S N lv d2) => crash_c h)
          have KO2 := Lib.hid (fun (W : World) (lv : Value) (h : DevAt B W D S N lv (crashed d2)) => open_c hm h hcf hfn2)
          clear hon hdn hfew hm hge hbig hfd hfn hfn2 hcf
          generalize crashed d2 = d3 at *
          generalize hmm : s * b = m at *
          rcases hcmp with hil | ⟨hil, hib⟩
          all_goals (
            go_upto_region 14 with (first
              | (go_at_call 9; (with_reducible refine KF.out.mono ?_); rintro e w6 ⟨rfl, ⟨lv6, hd6⟩, hs6⟩; have HD6 := Lib.hid hd6; have HB6 := Lib.hid (HBr.out.trans (hs6.below.mono (Nat.le_of_lt HXB.out))); have hx6 := blk_below HBXr.out hs6.below HXB.out; have HX6 := Lib.hid hx6; have g0 : w6.cell? ⟨w.heap.size, 0, none⟩ = some (.int .i64 s) := blk_cell hx6 0; have g1 : w6.cell? ⟨w.heap.size, 1, none⟩ = some (.int .i64 b) := blk_cell hx6 1; clear hd6 hs6 hx6)
              | (go_at_call 16; (with_reducible refine (KM'.out _).mono ?_); rintro e w7 ⟨rfl, hb7⟩; have HD7 := Lib.hid (HD6.out.later hb7); have HB7 := Lib.hid (HB6.out.trans (hb7.mono HB6.out.size)); have hx7 := blk_below HX6.out hb7 (lt_of_block HX6.out); have HX7 := Lib.hid hx7; have k0 : w7.cell? ⟨w.heap.size, 0, none⟩ = some (.int .i64 s) := blk_cell hx7 0; have k1 : w7.cell? ⟨w.heap.size, 1, none⟩ = some (.int .i64 b) := blk_cell hx7 1; clear hb7 hx7)
              | (go_at_call 6; (with_reducible refine (KO.out _ _ HD7.out).mono ?_); rintro e w8 ⟨rfl, hb8⟩; have HD8 := Lib.hid (HD7.out.later hb8); have HB8 := Lib.hid (HB7.out.trans (hb8.mono HB7.out.size)); have HX8 := Lib.hid (blk_below HX7.out hb8 (lt_of_block HX7.out)); clear hb8))
            have hp := blk_new (w8.alloc (.cells emptyCells 30)) #[.int .i64 s, .int .i64 b] 23
            rw [sz_alloc] at hp
            have HP1 := Lib.hid hp
            have HS1 := Lib.hid (blk_old (blk_new w8 emptyCells 30) (.cells #[.int .i64 s, .int .i64 b] 23))
            have hbw : Below w8.heap.size w8 ((w8.alloc (.cells emptyCells 30)).alloc (.cells #[.int .i64 s, .int .i64 b] 23)) := ((Below.refl _ _).alloc (Nat.le_refl _) _).alloc (by rw [sz_alloc]; exact Nat.le_succ _) _
            have HX9 := Lib.hid (blk_below HX8.out hbw (lt_of_block HX8.out))
            have HD9 := Lib.hid (HD8.out.later hbw)
            have HB9 := Lib.hid (HB8.out.trans (hbw.mono HB8.out.size))
            clear hp hbw
            generalize ((w8.alloc (.cells emptyCells 30)).alloc (.cells #[.int .i64 s, .int .i64 b] 23)) = w9 at *
            generalize w8.heap.size = M at *
            go_upto_region 16 with (first
              | (go_at_call 17; (with_reducible refine (KC.out _ _ HD9.out).mono ?_); rintro e w10 ⟨rfl, hd10, hs10⟩; have HD10 := Lib.hid hd10; have HB10 := Lib.hid (HB9.out.trans (hs10.below.mono (Nat.le_of_lt HXB.out))); have HX10 := Lib.hid (blk_below HX9.out hs10.below HXB.out); have HS10 := Lib.hid (hs10.kept _ _ HS1.out rfl); have HP10 := Lib.hid (hs10.kept _ _ HP1.out rfl); clear hd10 hs10)
              | (go_at_call 6; (with_reducible refine (KO2.out _ _ HD10.out).mono ?_); rintro e w11 ⟨rfl, hb11⟩; have HB11 := Lib.hid (HB10.out.trans (hb11.mono HB10.out.size)); have HX11 := Lib.hid (blk_below HX10.out hb11 (lt_of_block HX10.out)); have HS11 := Lib.hid (blk_below HS10.out hb11 (lt_of_block HS10.out)); have HP11 := Lib.hid (blk_below HP10.out hb11 (lt_of_block HP10.out)); clear hb11))
            have hp := blk_new (w11.alloc (.cells emptyCells 30)) #[.int .i64 s, .int .i64 b] 23
            rw [sz_alloc] at hp
            have hs2 := blk_old (blk_new w11 emptyCells 30) (.cells #[.int .i64 s, .int .i64 b] 23)
            have hbw : Below w11.heap.size w11 ((w11.alloc (.cells emptyCells 30)).alloc (.cells #[.int .i64 s, .int .i64 b] 23)) := ((Below.refl _ _).alloc (Nat.le_refl _) _).alloc (by rw [sz_alloc]; exact Nat.le_succ _) _
            have HA : Hid (Bxs w.heap.size M w11.heap.size s b w ((w11.alloc (.cells emptyCells 30)).alloc (.cells #[.int .i64 s, .int .i64 b] 23))) := Lib.hid ⟨blk_below HX11.out hbw (lt_of_block HX11.out), blk_below HS11.out hbw (lt_of_block HS11.out), blk_below HP11.out hbw (lt_of_block HP11.out), hs2, hp, HB11.out.trans (hbw.mono HB11.out.size)⟩
            clear hp hbw hs2
            generalize ((w11.alloc (.cells emptyCells 30)).alloc (.cells #[.int .i64 s, .int .i64 b] 23)) = w12 at *
            generalize w11.heap.size = K at *
            clear g0 g1 k0 k1 p0 p1
            go_wp2_with (first
              | (go_at_call 7; (with_reducible refine (KA.out _).mono ?_); rintro e w13 ⟨rfl, hb13⟩; have HA := Lib.hid (HA.out.later hb13); clear hb13)
              | (refine wpList_load_guard (by rfl) 30 (.tmp 11) rfl M rfl _ emptyCells _ _ HA.out.s1 Tryz.underlying30 rfl sizeE' ?_)
              | (refine wpList_load_guard (by rfl) 30 (.tmp 16) rfl K rfl _ emptyCells _ _ HA.out.s2 Tryz.underlying30 rfl sizeE' ?_)
              | (go_at_call 8; (refine (KS.out _).mono ?_); rintro e w14 ⟨rfl, hb14⟩; have HA := Lib.hid (HA.out.later hb14); clear hb14; have x0 := blk_cell HA.out.px 0; have x1 := blk_cell HA.out.px 1; have y0 := blk_cell HA.out.p1 0; have y1 := blk_cell HA.out.p1 1; have z0 := blk_cell HA.out.p2 0; have z1 := blk_cell HA.out.p2 1; simp at x0 x1 y0 y1 z0 z1))
            go_ret
            exact ⟨rfl, HA.out.below⟩)
      · have KM' := Lib.hid (fun (W : World) => (by have k := KM.out W; rw [decide_eq_false hm] at k; exact k : Calls Tryz.prog 16 #[.agg #[.int .i64 s, .int .i64 b]] W fun e w' => e = .returned (.bool false) ∧ Below W.heap.size W w'))
        have KF := Lib.hid (fun (W : World) => format_bad D s b hm W)
        clear hon hdn hfew hm
        rcases hcmp with hil | ⟨hil, hib⟩
        all_goals (
          go_wp2_with (first
            | (go_at_call 9; (with_reducible refine (KF.out _).mono ?_); rintro e w6 ⟨rfl, hb6⟩; have HB6 := Lib.hid (HBr.out.trans (hb6.mono HBr.out.size)); have hx6 := blk_below HBXr.out hb6 (lt_of_block HBXr.out); have g0 : w6.cell? ⟨w.heap.size, 0, none⟩ = some (.int .i64 s) := blk_cell hx6 0; have g1 : w6.cell? ⟨w.heap.size, 1, none⟩ = some (.int .i64 b) := blk_cell hx6 1; clear hb6 hx6)
            | (go_at_call 16; (with_reducible refine (KM'.out _).mono ?_); rintro e w7 ⟨rfl, hb7⟩; have HB7 := Lib.hid (HB6.out.trans (hb7.mono HB6.out.size)); clear hb7)
            | (go_at_call 7; (with_reducible refine (KA.out _).mono ?_); rintro e w8 ⟨rfl, hb8⟩; have HB8 := Lib.hid (HB7.out.trans (hb8.mono HB7.out.size)); clear hb8))
          go_ret
          exact ⟨rfl, HB8.out⟩)
end Go.Proofs.YthhgageghkbjjaaGreat.Tb
