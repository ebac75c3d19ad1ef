/- leaf.Decode of Encode's pages. -/
import Derived.Test.YthhgageghkbjjaaGreatSm
import Derived.Deep.WholeRow
namespace Go.Proofs.YthhgageghkbjjaaGreat.Sn
open Go.RowKit Go.Proofs.YthhgageghkbjjaaGreat.Ra Go.Proofs.YthhgageghkbjjaaGreat.Rc Go.Proofs.YthhgageghkbjjaaGreat.Rd Go.Proofs.YthhgageghkbjjaaGreat.Re Go.Proofs.YthhgageghkbjjaaGreat.Ri Go.Proofs.YthhgageghkbjjaaGreat.Rj Go.Proofs.YthhgageghkbjjaaGreat.Rl Go.Proofs.YthhgageghkbjjaaGreat.Rn Go.Proofs.YthhgageghkbjjaaGreat.Ro Go.Proofs.YthhgageghkbjjaaGreat.Rp Go.Proofs.YthhgageghkbjjaaGreat.Rq Go.Proofs.YthhgageghkbjjaaGreat.Rt Go.Proofs.YthhgageghkbjjaaGreat.Rw Go.Proofs.YthhgageghkbjjaaGreat.Sa Go.Proofs.YthhgageghkbjjaaGreat.Sd Go.Proofs.YthhgageghkbjjaaGreat.Se Go.Proofs.YthhgageghkbjjaaGreat.Sf Go.Proofs.YthhgageghkbjjaaGreat.Sg Go.Proofs.YthhgageghkbjjaaGreat.Sh Go.Proofs.YthhgageghkbjjaaGreat.Si Go.Proofs.YthhgageghkbjjaaGreat.Sj Go.Proofs.YthhgageghkbjjaaGreat.Sk Go.Proofs.YthhgageghkbjjaaGreat.Sl Go.Proofs.YthhgageghkbjjaaGreat.Sm
set_option maxRecDepth 8000

theorem store_new (W : World) : (storeCells ⟨W.heap.size, 0, none⟩ emptyCells.toList 0).run Tryz.prog (W.alloc (.cells #[.int .i64 0, .int .i64 0, .int .i64 0, .int .i64 0, .int .i64 0, .int .i64 0, .int .i64 0, .int .i64 0, .int .i64 0, .int .i64 0, .int .i64 0, .int .i64 0, .int .i64 0, .int .i64 0, .int .i64 0, .int .i64 0, .slice none 0 0, .slice none 0 0, .slice none 0 0, .slice none 0 0, .slice none 0 0, .slice none 0 0, .slice none 0 0, .slice none 0 0] 30)) = .ok () (W.alloc (.cells emptyCells 30)) := by
  have h := run_storeCells_from (P := Tryz.prog) W.heap.size 30 emptyCells.toList 0 #[.int .i64 0, .int .i64 0, .int .i64 0, .int .i64 0, .int .i64 0, .int .i64 0, .int .i64 0, .int .i64 0, .int .i64 0, .int .i64 0, .int .i64 0, .int .i64 0, .int .i64 0, .int .i64 0, .int .i64 0, .int .i64 0, .slice none 0 0, .slice none 0 0, .slice none 0 0, .slice none 0 0, .slice none 0 0, .slice none 0 0, .slice none 0 0, .slice none 0 0] (W.alloc (.cells #[.int .i64 0, .int .i64 0, .int .i64 0, .int .i64 0, .int .i64 0, .int .i64 0, .int .i64 0, .int .i64 0, .int .i64 0, .int .i64 0, .int .i64 0, .int .i64 0, .int .i64 0, .int .i64 0, .int .i64 0, .int .i64 0, .slice none 0 0, .slice none 0 0, .slice none 0 0, .slice none 0 0, .slice none 0 0, .slice none 0 0, .slice none 0 0, .slice none 0 0] 30)) (blk_new W _ _) (by decide) (fun x hx => oneE' x hx)
  rw [h]
  rw [World.setRow_alloc_new]
  rfl
theorem open_of {w w' : World} {v : Value} (h : NewBytes w (padL leafL) v w') : ∃ g c, v = .slice (some ⟨g, 0, none⟩) 60 c ∧ 60 ≤ c ∧ BytesIn 0 w' (.slice (some ⟨g, 0, none⟩) 60 c) (padL leafL) := by
  have hr := h.row
  have hb : BytesIn 0 w' v (padL leafL) := h.bytes
  rw [show (padL leafL).length = 60 from by decide] at hr
  obtain ⟨g, c, rfl, _, _⟩ := hr.form (by decide)
  refine ⟨g, c, rfl, ?_, hb⟩
  obtain ⟨_, _, e, h3, _⟩ := hb
  injection e with _ _ e3
  rw [e3]
  exact h3

set_option maxHeartbeats 4000000 in
theorem decode_c (v : Value) (s b : Int) (hm : MayP s b) (w : World) (hv : PagesP (closeL (headL s b)) (closeL leafL) v w) :
    Calls Tryz.prog 39 #[v] w fun e w' => e = .returned (.tuple #[.agg emptyCells, .agg #[.int .i64 s, .int .i64 b], .int .i64 1, .int .i64 0]) ∧ Below w.heap.size w w' := by
  have H0 := Lib.hid (Boxes.start 0 0 w)
  have HV := Lib.hid hv
  have KR := Lib.hid (fun (W : World) (u : Value) (hu : BytesIn 0 W u (closeL (headL s b))) => read_good u s b _ W hu (head_good s b hm))
  have KE := Lib.hid (fun (W : World) => encode_c s b hm W)
  have KS := Lib.hid (fun (W : World) (u : Value) (hu : BytesIn 0 W u (List.replicate 16 0)) => state_c u s b W hu)
  have KQ := Lib.hid (fun (W : World) (u v : Value) (hu : PagesP (closeL (headL s b)) (closeL leafL) u W) (hv : PagesP (closeL (headL s b)) (closeL leafL) v W) => equals_c u v _ _ W hu hv (by rw [headc_len]; decide) (by rw [leaf_len]; decide))
  have KO := Lib.hid (fun (W : World) (u : Value) (hu : BytesIn 0 W u (closeL leafL)) => open_ok 0 u _ W (Nat.zero_le _) hu leaf_len leaf_shut)
  obtain ⟨g, cap, u0, u1, rfl, gv0, gv1, bv0, bv1, hg⟩ := pages_at hv
  have GV := Lib.hid (⟨gv0, gv1, bv0, bv1, hg⟩ : w.cell? ⟨g, 0, none⟩ = some u0 ∧ w.cell? ⟨g, 1, none⟩ = some u1 ∧ BytesIn 0 w u0 (closeL (headL s b)) ∧ BytesIn 0 w u1 (closeL leafL) ∧ g < w.heap.size)
  have hcap : 2 ≤ cap := by
    obtain ⟨_, _, _, _, _, e, h2, _⟩ := hv
    injection e with _ _ e3
    rw [e3]; exact h2
  clear hv gv0 gv1 bv0 bv1
  go_enter Tryz.func39, Tryz.ntmps39
  go_upto_region 1 with fail
  rw [show ((w.alloc (.cells #[.int .i64 0, .int .i64 0, .int .i64 0, .int .i64 0, .int .i64 0, .int .i64 0, .int .i64 0, .int .i64 0, .int .i64 0, .int .i64 0, .int .i64 0, .int .i64 0, .int .i64 0, .int .i64 0, .int .i64 0, .int .i64 0, .slice none 0 0, .slice none 0 0, .slice none 0 0, .slice none 0 0, .slice none 0 0, .slice none 0 0, .slice none 0 0, .slice none 0 0] 30)).alloc (.cells #[.int .i64 0, .int .i64 0] 23)) = ((w.alloc (.cells emptyCells 30)).alloc (.cells #[.int .i64 0, .int .i64 0] 23)) from rfl]
  generalize ((w.alloc (.cells emptyCells 30)).alloc (.cells #[.int .i64 0, .int .i64 0] 23)) = w0 at *
  have HB0 : Hid (Below w.heap.size w w0) := Lib.hid H0.out.2.2
  have HU0 := Lib.hid (GV.out.2.2.1.step (Step.of HB0.out (Nat.zero_le _)))
  have q0 : w0.cell? ⟨g, 0, none⟩ = some u0 := (H0.out.2.2.cell (p := ⟨g, 0, none⟩) hg).trans GV.out.1
  have nc2 : (2 : Int) ≤ (cap : Int) := by omega
  go_upto_region 4 with (first
    | (go_at_call 59; (with_reducible refine (KR.out _ _ HU0.out).mono ?_); rintro e w1 ⟨rfl, hb1⟩; have HB1 := Lib.hid hb1; have H1 := Lib.hid (H0.out.later hb1); clear hb1))
  obtain ⟨w2, hw2⟩ : ∃ W, W = w1.alloc (.cells #[.int .i64 1, .int .i64 s, .int .i64 b, .int .i64 1, .int .i64 16] 112) := ⟨_, rfl⟩
  have hk := blk_new w1 #[.int .i64 1, .int .i64 s, .int .i64 b, .int .i64 1, .int .i64 16] 112
  have hb2 : Below w1.heap.size w1 w2 := by rw [hw2]; exact (Below.refl _ _).alloc (Nat.le_refl _) _
  rw [← hw2] at hk ⊢
  have HK2 := Lib.hid hk
  have H2 := Lib.hid (H1.out.later hb2)
  have HB2 : Hid (Below w.heap.size w w2) := Lib.hid H2.out.2.2
  have HM : Hid (w.heap.size + 1 < w1.heap.size) := Lib.hid (lt_of_block H1.out.2.1)
  have j0 : w2.cell? ⟨w1.heap.size, 0, none⟩ = some (.int .i64 1) := blk_cell hk 0
  have j1 : w2.cell? ⟨w1.heap.size, 1, none⟩ = some (.int .i64 s) := blk_cell hk 1
  have j2 : w2.cell? ⟨w1.heap.size, 2, none⟩ = some (.int .i64 b) := blk_cell hk 2
  have j3 : w2.cell? ⟨w1.heap.size, 3, none⟩ = some (.int .i64 1) := blk_cell hk 3
  have c1 : w2.cell? ⟨g, 1, none⟩ = some u1 := (HB2.out.cell (p := ⟨g, 1, none⟩) hg).trans GV.out.2.1
  have HU1 := Lib.hid (GV.out.2.2.2.1.step (Step.of HB2.out (Nat.zero_le _)))
  have ncz : ¬ cap - 1 = 0 := by omega
  have nc3 : (1 : Int) ≤ ((cap - 1 : Nat) : Int) := by omega
  have nc1 : (1 : Int) ≤ (cap : Int) := by omega
  clear hw2 hb2 hk H1 HB1 H0 HB0 HU0 q0
  generalize w1.heap.size = K at *
  go_wp2_with (fail)
  go_loopg [8, 48] (2) (fun gg s8 s48 wr => (gg = 2 ∧ s48 = .int .i64 0 ∧ s8 = .slice none 0 0 ∧ wr = w2) ∨ (gg = 1 ∧ s48 = .int .i64 1 ∧ ∃ g' c', s8 = .slice (some ⟨g', 0, none⟩) 16 c' ∧ Hid (Below w2.heap.size w2 wr ∧ BytesIn 0 wr s8 (List.replicate 16 0))))
  case atStart => exact .inl ⟨rfl, rfl, rfl, rfl⟩
  case round =>
    rcases hrel with ⟨rfl, rfl, rfl, rfl⟩ | ⟨rfl, rfl, g', c', rfl, HR⟩
    · go_upto_region 11 with (go_at_call 60; (with_reducible refine (KO.out _ _ HU1.out).mono ?_); rintro e w3 ⟨v3, rfl, hn3⟩; have hn3' := hn3; rw [leaf_60] at hn3'; obtain ⟨g3, c3, rfl, hc3, hby3⟩ := open_of hn3'; have HN3 := Lib.hid hn3'.below; have HY3 := Lib.hid hby3; clear hn3 hn3' hby3)
      have c5 : w3.cell? ⟨g3, 5, none⟩ = some (.int .u8 16) := by
        obtain ⟨b', o', e, _, _, hc⟩ := bytes_at HY3.out (by decide)
        injection e with e
        injection e with e1 e2
        have := hc 5 16 (by decide)
        rw [← e1, ← e2] at this
        simpa using this
      have hpart : BytesIn 0 w3 (.slice (some ⟨g3, 6, none⟩) 16 (c3 - 6)) (List.replicate 16 0) := by
        have := HY3.out.cut 6 22 (by decide) (by decide) (some ⟨g3, 6, none⟩) (c3 - 6) (by omega) (fun b' o' e _ => by
          injection e with e
          injection e with e1 e2
          rw [← e1, ← e2])
        rw [show 22 - 6 = 16 from rfl, show ((padL leafL).drop 6).take 16 = List.replicate 16 0 from by decide] at this
        exact this
      have HNEWS := Lib.hid (fun j u hu => hpart.news j u hu)
      obtain ⟨i0, hi, hz0, hz1, hz2⟩ := info_parts info_u8
      have HI := Lib.hid hi
      have HZ0 := Lib.hid hz0
      have HZ1 := Lib.hid hz1
      have HZ2 := Lib.hid hz2
      have OW : Hid (w3.ownsRow w3.heap.size 5 1 (.slice none 0 0) 0 []) := Lib.hid (World.ownsRow_nil _ _ _ _)
      have hc60 : (60 : Int) ≤ (c3 : Int) := by omega
      have hc22 : (22 : Int) ≤ (c3 : Int) := by omega
      have hcz : ¬ c3 - 6 = 0 := by omega
      have ha22 : IntKind.u8.wrap 22 = 22 := by decide
      clear hi hz0 hz1 hz2 hpart
      go_wp2_with (first | (at_builtin; go_loud (refine wpList_append_lies _ rfl _ _ 44 rfl w3.heap.size 5 i0 (.int .u8 0) 1 1 Tryz.underlying44 HI.out HZ0.out HZ1.out HZ2.out rfl (by decide) _ 0 [] rfl OW.out ⟨g3, 6, none⟩ 16 (c3 - 6) (byteVals (List.replicate 16 0)) rfl (by decide) HNEWS.out (byteVals_one _) (by decide) (by decide) (by decide) (Nat.le_refl _) _ rfl ?_)))
      intro g4 cap4 w4 hown hgrow _ _
      have HR4 : Hid (Below wr.heap.size wr w4 ∧ BytesIn 0 w4 (.slice (some ⟨g4, 0, none⟩) 16 cap4) (List.replicate 16 0)) := Lib.hid ⟨HN3.out.trans (below_grown (row_mono OW.out HN3.out.size) HN3.out.size hgrow), bytes_of_row hown⟩
      clear hown hgrow
      go_wp2_with (fail)
      go_roundg (1)
      case measure => omega
      case rel => exact .inr ⟨rfl, by go_num, g4, cap4, rfl, HR4⟩
    · have j0' : wr.cell? ⟨K, 0, none⟩ = some (.int .i64 1) := (HR.out.1.cell (p := ⟨K, 0, none⟩) (lt_of_block HK2.out)).trans j0
      have j1' : wr.cell? ⟨K, 1, none⟩ = some (.int .i64 s) := (HR.out.1.cell (p := ⟨K, 1, none⟩) (lt_of_block HK2.out)).trans j1
      have j2' : wr.cell? ⟨K, 2, none⟩ = some (.int .i64 b) := (HR.out.1.cell (p := ⟨K, 2, none⟩) (lt_of_block HK2.out)).trans j2
      have H3 := Lib.hid (H2.out.later HR.out.1)
      have HKw := Lib.hid (blk_below HK2.out HR.out.1 (lt_of_block HK2.out))
      go_upto_region 16 with fail
      obtain ⟨w5, hw5⟩ : ∃ W, W = wr.alloc (.cells #[.int .i64 s, .int .i64 b] 23) := ⟨_, rfl⟩
      have hb5 : Below wr.heap.size wr w5 := by rw [hw5]; exact (Below.refl _ _).alloc (Nat.le_refl _) _
      have hp5 := blk_new wr #[.int .i64 s, .int .i64 b] 23
      rw [← hw5] at hp5 ⊢
      have HP5 := Lib.hid hp5
      have p0 : w5.cell? ⟨wr.heap.size, 0, none⟩ = some (.int .i64 s) := blk_cell hp5 0
      have p1 : w5.cell? ⟨wr.heap.size, 1, none⟩ = some (.int .i64 b) := blk_cell hp5 1
      have H5 := Lib.hid (H3.out.later hb5)
      have HK5 := Lib.hid (blk_below HKw.out hb5 (lt_of_block HKw.out))
      have HY5 := Lib.hid (HR.out.2.step (Step.of hb5 (Nat.zero_le _)))
      have HV5 : Hid (Below w.heap.size w w5) := Lib.hid H5.out.2.2
      have hKH : K ≠ wr.heap.size := Nat.ne_of_lt (lt_of_block HKw.out)
      have HAH : Hid (w.heap.size + 1 < wr.heap.size) := Lib.hid (lt_of_block H3.out.2.1)
      clear hw5 hb5 hp5 H3 HKw j0' j1' j2' HR
      generalize wr.heap.size = H at *
      have hst := store_new
      go_upto_region 17 with (first
        | (go_at_call 61; (with_reducible refine (KS.out _ _ HY5.out).mono ?_); rintro e w6 ⟨rfl, hb6⟩; have HB6 := Lib.hid hb6; clear hb6))
      obtain ⟨w7, hw7⟩ : ∃ W, W = w6.alloc (.cells emptyCells 30) := ⟨_, rfl⟩
      have hb7 : Below w6.heap.size w6 w7 := by rw [hw7]; exact (Below.refl _ _).alloc (Nat.le_refl _) _
      have hs7 := blk_new w6 emptyCells 30
      rw [← hw7] at hs7 ⊢
      have hb57 : Below w5.heap.size w5 w7 := HB6.out.trans (hb7.mono HB6.out.size)
      have HG7 := Lib.hid hs7
      have H7 := Lib.hid (H5.out.later hb57)
      have hk7 := blk_below HK5.out hb57 (lt_of_block HK5.out)
      have hp7 := blk_below HP5.out hb57 (lt_of_block HP5.out)
      have k0 : w7.cell? ⟨K, 0, none⟩ = some (.int .i64 1) := blk_cell hk7 0
      have r0 : w7.cell? ⟨H, 0, none⟩ = some (.int .i64 s) := blk_cell hp7 0
      have r1 : w7.cell? ⟨H, 1, none⟩ = some (.int .i64 b) := blk_cell hp7 1
      have HK7 := Lib.hid hk7
      have HP7 := Lib.hid hp7
      have HV7 := Lib.hid (HV5.out.trans (hb57.mono HV5.out.size))
      have HHG : Hid (H < w6.heap.size) := Lib.hid (lt_of_block (blk_below HP5.out HB6.out (lt_of_block HP5.out)))
      have HKG : Hid (K < w6.heap.size) := Lib.hid (lt_of_block (blk_below HK5.out HB6.out (lt_of_block HK5.out)))
      clear hw7 hb7 hs7 hb57 hk7 hp7 hst p0 p1 H5 HK5 HP5 HY5 HV5 HB6
      generalize w6.heap.size = G at *
      go_upto_region 22 with (first
        | (refine wpList_load_row rfl 30 (.tmp 14) rfl G rfl _ emptyCells _ _ HG7.out Tryz.underlying30 rfl sizeE' ?_)
        | (go_at_call 50; (with_reducible refine (KE.out _).mono ?_); rintro e w8 ⟨pv, rfl, hpv, hb8⟩; have HPV := Lib.hid hpv; have HB8 := Lib.hid hb8; have HQ8 := Lib.hid (KQ.out w8 _ _ hpv (PagesP.below HV.out (HV7.out.trans (hb8.mono HV7.out.size)))); clear hpv hb8)
        | (go_at_call 62; (with_reducible refine HQ8.out.mono ?_); rintro e w9 ⟨rfl, hb9⟩; have HB9 := Lib.hid hb9; clear hb9))
      have hb79 : Below w7.heap.size w7 w9 := HB8.out.trans (HB9.out.mono HB8.out.size)
      have H9 := H7.out.later hb79
      have hst9 : w9.heap[w.heap.size]? = some (.cells emptyCells 30 (0, 0)) := H9.1
      have hpl9 : w9.heap[w.heap.size + 1]? = some (.cells #[.int .i64 0, .int .i64 0] 23 (0, 0)) := H9.2.1
      have hA1 := HM.out
      have hA2 := HAH.out
      have hA3 := HHG.out
      refine Sh.region_eq' (ops := r22) (by kernel_rfl) ?_
      refine wp_region_each (T22L s b K) (fun L W => DB w.heap.size G H K s b w W ∧ (L 5 → W.heap[w.heap.size + 1]? = some (.cells #[.int .i64 s, .int .i64 b] 23 (0, 0)))) (by kernel_rfl) (by kernel_rfl)
        ⟨⟨hst9, ⟨_, _, hpl9⟩, blk_below HG7.out hb79.drew (lt_of_block HG7.out), blk_below HP7.out hb79.drew (lt_of_block HP7.out), blk_cell (blk_below HK7.out hb79.drew (lt_of_block HK7.out)) 0, (HV7.out.trans (hb79.mono HV7.out.size)).drew⟩, fun h => h.elim⟩
        (owes22 w.heap.size G H K s b w (Nat.le_refl _) (by omega) (by omega) (by omega) (by omega) (by omega) (by omega) _ rfl rfl rfl rfl rfl) ?_
      intro P a1 w10 hall hF ⟨hS, hS5⟩ hT
      have hn5 := hS5 (hall 5 (by rw [show r22.size = 8 from by kernel_rfl]; decide))
      obtain ⟨v4, q4, t4⟩ := hT 6 _ (Array.getElem?_eq_getElem (by rw [show r22.size = 8 from by kernel_rfl]; decide))
      obtain ⟨v5, q5, t5⟩ := hT 7 _ (Array.getElem?_eq_getElem (by rw [show r22.size = 8 from by kernel_rfl]; decide))
      have t4' : v4 = .int .i64 1 := t4
      have t5' : v5 = .int .i64 0 := t5
      subst t4' t5'
      have q4' : a1.eval (.tmp 4) = .int .i64 1 := eval_at q4
      have q5' : a1.eval (.tmp 5) = .int .i64 0 := eval_at q5
      have s2 := slot (k := 2) hF (by kernel_rfl) rfl
      have s3 := slot (k := 3) hF (by kernel_rfl) rfl
      have hd := hF.defers
      go_wp2_with (fail)
      refine bodyPost_ret (results_cells_four rfl _ w10 w.heap.size (w.heap.size + 1) _ _ _ _ _ _ _ _ s2 s3 hS.st hn5 Tryz.underlying30 rfl sizeE' Tryz.underlying23 rfl (by kernel_rfl)) hd ?_
      refine ⟨?_, hS.below⟩
      have q4'' : a1.tmps.getD 4 undef = .int .i64 1 := q4'
      have q5'' : a1.tmps.getD 5 undef = .int .i64 0 := q5'
      rw [q4'', q5'']
end Go.Proofs.YthhgageghkbjjaaGreat.Sn
