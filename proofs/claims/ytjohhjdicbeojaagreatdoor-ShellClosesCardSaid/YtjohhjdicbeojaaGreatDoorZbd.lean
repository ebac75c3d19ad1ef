/- Texts joined: Sn So Sp. -/
import Derived.Deep.WholeRow
import Derived.Test.YtjohhjdicbeojaaGreatDoorZbc
namespace Go.Proofs.YtjohhjdicbeojaaGreatDoor.Sn
open Go.RowKit Go.Proofs.YtjohhjdicbeojaaGreatDoor.Ra Go.Proofs.YtjohhjdicbeojaaGreatDoor.Rc Go.Proofs.YtjohhjdicbeojaaGreatDoor.Rd Go.Proofs.YtjohhjdicbeojaaGreatDoor.Re Go.Proofs.YtjohhjdicbeojaaGreatDoor.Ri Go.Proofs.YtjohhjdicbeojaaGreatDoor.Rj Go.Proofs.YtjohhjdicbeojaaGreatDoor.Rl Go.Proofs.YtjohhjdicbeojaaGreatDoor.Rn Go.Proofs.YtjohhjdicbeojaaGreatDoor.Ro Go.Proofs.YtjohhjdicbeojaaGreatDoor.Rp Go.Proofs.YtjohhjdicbeojaaGreatDoor.Rq Go.Proofs.YtjohhjdicbeojaaGreatDoor.Rt Go.Proofs.YtjohhjdicbeojaaGreatDoor.Rw Go.Proofs.YtjohhjdicbeojaaGreatDoor.Sa Go.Proofs.YtjohhjdicbeojaaGreatDoor.Sd Go.Proofs.YtjohhjdicbeojaaGreatDoor.Se Go.Proofs.YtjohhjdicbeojaaGreatDoor.Sf Go.Proofs.YtjohhjdicbeojaaGreatDoor.Sg Go.Proofs.YtjohhjdicbeojaaGreatDoor.Sh Go.Proofs.YtjohhjdicbeojaaGreatDoor.Si Go.Proofs.YtjohhjdicbeojaaGreatDoor.Sj Go.Proofs.YtjohhjdicbeojaaGreatDoor.Sk Go.Proofs.YtjohhjdicbeojaaGreatDoor.Sl Go.Proofs.YtjohhjdicbeojaaGreatDoor.Sm
set_option maxRecDepth 8000
theorem store_new (W : World) : (storeCells ⟨W.heap.size, 0, none⟩ emptyCells.toList 0).run Tryz.prog (W.alloc (.cells #[.int .i64 0, .int .i64 0, .int .i64 0, .int .i64 0, .int .i64 0, .int .i64 0, .int .i64 0, .int .i64 0, .int .i64 0, .int .i64 0, .int .i64 0, .int .i64 0, .int .i64 0, .int .i64 0, .int .i64 0, .int .i64 0, .slice none 0 0, .slice none 0 0, .slice none 0 0, .slice none 0 0, .slice none 0 0, .slice none 0 0, .slice none 0 0, .slice none 0 0] 96)) = .ok () (W.alloc (.cells emptyCells 96)) := by
  have h := run_storeCells_from (P := Tryz.prog) W.heap.size 96 emptyCells.toList 0 #[.int .i64 0, .int .i64 0, .int .i64 0, .int .i64 0, .int .i64 0, .int .i64 0, .int .i64 0, .int .i64 0, .int .i64 0, .int .i64 0, .int .i64 0, .int .i64 0, .int .i64 0, .int .i64 0, .int .i64 0, .int .i64 0, .slice none 0 0, .slice none 0 0, .slice none 0 0, .slice none 0 0, .slice none 0 0, .slice none 0 0, .slice none 0 0, .slice none 0 0] (W.alloc (.cells #[.int .i64 0, .int .i64 0, .int .i64 0, .int .i64 0, .int .i64 0, .int .i64 0, .int .i64 0, .int .i64 0, .int .i64 0, .int .i64 0, .int .i64 0, .int .i64 0, .int .i64 0, .int .i64 0, .int .i64 0, .int .i64 0, .slice none 0 0, .slice none 0 0, .slice none 0 0, .slice none 0 0, .slice none 0 0, .slice none 0 0, .slice none 0 0, .slice none 0 0] 96)) (blk_new W _ _) (by decide) (fun x hx => oneE' x hx)
  rw [h]
  rw [World.setRow_alloc_new]
  rfl
theorem open_of {w w' : World} {v : Value} (h : NewBytes w (padL leafL) v w') : ∃ g c, v = .slice (some ⟨g, 0, none⟩) 60 c ∧ 60 ≤ c ∧ BytesIn 0 w' (.slice (some ⟨g, 0, none⟩) 60 c) (padL leafL) := by
  have hr := h.row
  have hb : BytesIn 0 w' v (padL leafL) := h.bytes
  rw [show (padL leafL).length = 60 from by decide] at hr
  obtain ⟨g, c, rfl, _, _⟩ := hr.form (by decide)
  refine ⟨g, c, rfl, ?_, hb⟩
  obtain ⟨_, _, e, h3, _⟩ := hb
  injection e with _ _ e3
  rw [e3]
  exact h3
set_option maxHeartbeats 4000000 in
theorem decode_c (v : Value) (s b : Int) (hm : MayP s b) (w : World) (hv : PagesP (closeL (headL s b)) (closeL leafL) v w) :
    Calls Tryz.prog 105 #[v] w fun e w' => e = .returned (.tuple #[.agg emptyCells, .agg #[.int .i64 s, .int .i64 b], .int .i64 1, .int .i64 0]) ∧ Below w.heap.size w w' := by
  have H0 := Lib.hid (Boxes.start 0 0 w)
  have HV := Lib.hid hv
  have KR := Lib.hid (fun (W : World) (u : Value) (hu : BytesIn 0 W u (closeL (headL s b))) => read_good u s b _ W hu (head_good s b hm))
  have KE := Lib.hid (fun (W : World) => encode_c s b hm W)
  have KS := Lib.hid (fun (W : World) (u : Value) (hu : BytesIn 0 W u (List.replicate 16 0)) => state_c u s b W hu)
  have KQ := Lib.hid (fun (W : World) (u v : Value) (hu : PagesP (closeL (headL s b)) (closeL leafL) u W) (hv : PagesP (closeL (headL s b)) (closeL leafL) v W) => equals_c u v _ _ W hu hv (by rw [headc_len]; decide) (by rw [leaf_len]; decide))
  have KO := Lib.hid (fun (W : World) (u : Value) (hu : BytesIn 0 W u (closeL leafL)) => open_ok 0 u _ W (Nat.zero_le _) hu leaf_len leaf_shut)
  obtain ⟨g, cap, u0, u1, rfl, gv0, gv1, bv0, bv1, hg⟩ := pages_at hv
  have GV := Lib.hid (⟨gv0, gv1, bv0, bv1, hg⟩ : w.cell? ⟨g, 0, none⟩ = some u0 ∧ w.cell? ⟨g, 1, none⟩ = some u1 ∧ BytesIn 0 w u0 (closeL (headL s b)) ∧ BytesIn 0 w u1 (closeL leafL) ∧ g < w.heap.size)
  have hcap : 2 ≤ cap := by
    obtain ⟨_, _, _, _, _, e, h2, _⟩ := hv
    injection e with _ _ e3
    rw [e3]; exact h2
  clear hv gv0 gv1 bv0 bv1
  go_enter Tryz.func105, Tryz.ntmps105
  go_upto_region 1 with fail
  rw [show ((w.alloc (.cells #[.int .i64 0, .int .i64 0, .int .i64 0, .int .i64 0, .int .i64 0, .int .i64 0, .int .i64 0, .int .i64 0, .int .i64 0, .int .i64 0, .int .i64 0, .int .i64 0, .int .i64 0, .int .i64 0, .int .i64 0, .int .i64 0, .slice none 0 0, .slice none 0 0, .slice none 0 0, .slice none 0 0, .slice none 0 0, .slice none 0 0, .slice none 0 0, .slice none 0 0] 96)).alloc (.cells #[.int .i64 0, .int .i64 0] 58)) = ((w.alloc (.cells emptyCells 96)).alloc (.cells #[.int .i64 0, .int .i64 0] 58)) from rfl]
  generalize ((w.alloc (.cells emptyCells 96)).alloc (.cells #[.int .i64 0, .int .i64 0] 58)) = w0 at *
  have HB0 : Hid (Below w.heap.size w w0) := Lib.hid H0.out.2.2
  have HU0 := Lib.hid (GV.out.2.2.1.step (Step.of HB0.out (Nat.zero_le _)))
  have q0 : w0.cell? ⟨g, 0, none⟩ = some u0 := (H0.out.2.2.cell (p := ⟨g, 0, none⟩) hg).trans GV.out.1
  have nc2 : (2 : Int) ≤ (cap : Int) := by omega
  go_upto_region 4 with (first
    | (go_at_call 159; (with_reducible refine (KR.out _ _ HU0.out).mono ?_); rintro e w1 ⟨rfl, hb1⟩; have HB1 := Lib.hid hb1; have H1 := Lib.hid (H0.out.later hb1); clear hb1))
  obtain ⟨w2, hw2⟩ : ∃ W, W = w1.alloc (.cells #[.int .i64 1, .int .i64 s, .int .i64 b, .int .i64 1, .int .i64 16] 267) := ⟨_, rfl⟩
  have hk := blk_new w1 #[.int .i64 1, .int .i64 s, .int .i64 b, .int .i64 1, .int .i64 16] 267
  have hb2 : Below w1.heap.size w1 w2 := by rw [hw2]; exact (Below.refl _ _).alloc (Nat.le_refl _) _
  rw [← hw2] at hk ⊢
  have HK2 := Lib.hid hk
  have H2 := Lib.hid (H1.out.later hb2)
  have HB2 : Hid (Below w.heap.size w w2) := Lib.hid H2.out.2.2
  have HM : Hid (w.heap.size + 1 < w1.heap.size) := Lib.hid (lt_of_block H1.out.2.1)
  have j0 : w2.cell? ⟨w1.heap.size, 0, none⟩ = some (.int .i64 1) := blk_cell hk 0
  have j1 : w2.cell? ⟨w1.heap.size, 1, none⟩ = some (.int .i64 s) := blk_cell hk 1
  have j2 : w2.cell? ⟨w1.heap.size, 2, none⟩ = some (.int .i64 b) := blk_cell hk 2
  have j3 : w2.cell? ⟨w1.heap.size, 3, none⟩ = some (.int .i64 1) := blk_cell hk 3
  have c1 : w2.cell? ⟨g, 1, none⟩ = some u1 := (HB2.out.cell (p := ⟨g, 1, none⟩) hg).trans GV.out.2.1
  have HU1 := Lib.hid (GV.out.2.2.2.1.step (Step.of HB2.out (Nat.zero_le _)))
  have ncz : ¬ cap - 1 = 0 := by omega
  have nc3 : (1 : Int) ≤ ((cap - 1 : Nat) : Int) := by omega
  have nc1 : (1 : Int) ≤ (cap : Int) := by omega
  clear hw2 hb2 hk H1 HB1 H0 HB0 HU0 q0
  generalize w1.heap.size = K at *
  go_wp2_with (fail)
  go_loopg [8, 48] (2) (fun gg s8 s48 wr => (gg = 2 ∧ s48 = .int .i64 0 ∧ s8 = .slice none 0 0 ∧ wr = w2) ∨ (gg = 1 ∧ s48 = .int .i64 1 ∧ ∃ g' c', s8 = .slice (some ⟨g', 0, none⟩) 16 c' ∧ Hid (Below w2.heap.size w2 wr ∧ BytesIn 0 wr s8 (List.replicate 16 0))))
  case atStart => exact .inl ⟨rfl, rfl, rfl, rfl⟩
  case round =>
    rcases hrel with ⟨rfl, rfl, rfl, rfl⟩ | ⟨rfl, rfl, g', c', rfl, HR⟩
    · go_upto_region 11 with (go_at_call 160; (with_reducible refine (KO.out _ _ HU1.out).mono ?_); rintro e w3 ⟨v3, rfl, hn3⟩; have hn3' := hn3; rw [leaf_60] at hn3'; obtain ⟨g3, c3, rfl, hc3, hby3⟩ := open_of hn3'; have HN3 := Lib.hid hn3'.below; have HY3 := Lib.hid hby3; clear hn3 hn3' hby3)
      have c5 : w3.cell? ⟨g3, 5, none⟩ = some (.int .u8 16) := by
        obtain ⟨b', o', e, _, _, hc⟩ := bytes_at HY3.out (by decide)
        injection e with e
        injection e with e1 e2
        have := hc 5 16 (by decide)
        rw [← e1, ← e2] at this
        simpa using this
      have hpart : BytesIn 0 w3 (.slice (some ⟨g3, 6, none⟩) 16 (c3 - 6)) (List.replicate 16 0) := by
        have := HY3.out.cut 6 22 (by decide) (by decide) (some ⟨g3, 6, none⟩) (c3 - 6) (by omega) (fun b' o' e _ => by
          injection e with e
          injection e with e1 e2
          rw [← e1, ← e2])
        rw [show 22 - 6 = 16 from rfl, show ((padL leafL).drop 6).take 16 = List.replicate 16 0 from by decide] at this
        exact this
      have HNEWS := Lib.hid (fun j u hu => hpart.news j u hu)
      obtain ⟨i0, hi, hz0, hz1, hz2⟩ := info_parts info_u8
      have HI := Lib.hid hi
      have HZ0 := Lib.hid hz0
      have HZ1 := Lib.hid hz1
      have HZ2 := Lib.hid hz2
      have OW : Hid (w3.ownsRow w3.heap.size 5 1 (.slice none 0 0) 0 []) := Lib.hid (World.ownsRow_nil _ _ _ _)
      have hc60 : (60 : Int) ≤ (c3 : Int) := by omega
      have hc22 : (22 : Int) ≤ (c3 : Int) := by omega
      have hcz : ¬ c3 - 6 = 0 := by omega
      have ha22 : IntKind.u8.wrap 22 = 22 := by decide
      clear hi hz0 hz1 hz2 hpart
      go_wp2_with (first | (at_builtin; go_loud (refine wpList_append_lies _ rfl _ _ 22 rfl w3.heap.size 5 i0 (.int .u8 0) 1 1 Tryz.underlying22 HI.out HZ0.out HZ1.out HZ2.out rfl (by decide) _ 0 [] rfl OW.out ⟨g3, 6, none⟩ 16 (c3 - 6) (byteVals (List.replicate 16 0)) rfl (by decide) HNEWS.out (byteVals_one _) (by decide) (by decide) (by decide) (Nat.le_refl _) _ rfl ?_)))
      intro g4 cap4 w4 hown hgrow _ _
      have HR4 : Hid (Below wr.heap.size wr w4 ∧ BytesIn 0 w4 (.slice (some ⟨g4, 0, none⟩) 16 cap4) (List.replicate 16 0)) := Lib.hid ⟨HN3.out.trans (below_grown (row_mono OW.out HN3.out.size) HN3.out.size hgrow), bytes_of_row hown⟩
      clear hown hgrow
      go_wp2_with (fail)
      go_roundg (1)
      case measure => omega
      case rel => exact .inr ⟨rfl, by go_num, g4, cap4, rfl, HR4⟩
    · have j0' : wr.cell? ⟨K, 0, none⟩ = some (.int .i64 1) := (HR.out.1.cell (p := ⟨K, 0, none⟩) (lt_of_block HK2.out)).trans j0
      have j1' : wr.cell? ⟨K, 1, none⟩ = some (.int .i64 s) := (HR.out.1.cell (p := ⟨K, 1, none⟩) (lt_of_block HK2.out)).trans j1
      have j2' : wr.cell? ⟨K, 2, none⟩ = some (.int .i64 b) := (HR.out.1.cell (p := ⟨K, 2, none⟩) (lt_of_block HK2.out)).trans j2
      have H3 := Lib.hid (H2.out.later HR.out.1)
      have HKw := Lib.hid (blk_below HK2.out HR.out.1 (lt_of_block HK2.out))
      go_upto_region 16 with fail
      obtain ⟨w5, hw5⟩ : ∃ W, W = wr.alloc (.cells #[.int .i64 s, .int .i64 b] 58) := ⟨_, rfl⟩
      have hb5 : Below wr.heap.size wr w5 := by rw [hw5]; exact (Below.refl _ _).alloc (Nat.le_refl _) _
      have hp5 := blk_new wr #[.int .i64 s, .int .i64 b] 58
      rw [← hw5] at hp5 ⊢
      have HP5 := Lib.hid hp5
      have p0 : w5.cell? ⟨wr.heap.size, 0, none⟩ = some (.int .i64 s) := blk_cell hp5 0
      have p1 : w5.cell? ⟨wr.heap.size, 1, none⟩ = some (.int .i64 b) := blk_cell hp5 1
      have H5 := Lib.hid (H3.out.later hb5)
      have HK5 := Lib.hid (blk_below HKw.out hb5 (lt_of_block HKw.out))
      have HY5 := Lib.hid (HR.out.2.step (Step.of hb5 (Nat.zero_le _)))
      have HV5 : Hid (Below w.heap.size w w5) := Lib.hid H5.out.2.2
      have hKH : K ≠ wr.heap.size := Nat.ne_of_lt (lt_of_block HKw.out)
      have HAH : Hid (w.heap.size + 1 < wr.heap.size) := Lib.hid (lt_of_block H3.out.2.1)
      clear hw5 hb5 hp5 H3 HKw j0' j1' j2' HR
      generalize wr.heap.size = H at *
      have hst := store_new
      go_upto_region 17 with (first
        | (go_at_call 161; (with_reducible refine (KS.out _ _ HY5.out).mono ?_); rintro e w6 ⟨rfl, hb6⟩; have HB6 := Lib.hid hb6; clear hb6))
      obtain ⟨w7, hw7⟩ : ∃ W, W = w6.alloc (.cells emptyCells 96) := ⟨_, rfl⟩
      have hb7 : Below w6.heap.size w6 w7 := by rw [hw7]; exact (Below.refl _ _).alloc (Nat.le_refl _) _
      have hs7 := blk_new w6 emptyCells 96
      rw [← hw7] at hs7 ⊢
      have hb57 : Below w5.heap.size w5 w7 := HB6.out.trans (hb7.mono HB6.out.size)
      have HG7 := Lib.hid hs7
      have H7 := Lib.hid (H5.out.later hb57)
      have hk7 := blk_below HK5.out hb57 (lt_of_block HK5.out)
      have hp7 := blk_below HP5.out hb57 (lt_of_block HP5.out)
      have k0 : w7.cell? ⟨K, 0, none⟩ = some (.int .i64 1) := blk_cell hk7 0
      have r0 : w7.cell? ⟨H, 0, none⟩ = some (.int .i64 s) := blk_cell hp7 0
      have r1 : w7.cell? ⟨H, 1, none⟩ = some (.int .i64 b) := blk_cell hp7 1
      have HK7 := Lib.hid hk7
      have HP7 := Lib.hid hp7
      have HV7 := Lib.hid (HV5.out.trans (hb57.mono HV5.out.size))
      have HHG : Hid (H < w6.heap.size) := Lib.hid (lt_of_block (blk_below HP5.out HB6.out (lt_of_block HP5.out)))
      have HKG : Hid (K < w6.heap.size) := Lib.hid (lt_of_block (blk_below HK5.out HB6.out (lt_of_block HK5.out)))
      clear hw7 hb7 hs7 hb57 hk7 hp7 hst p0 p1 H5 HK5 HP5 HY5 HV5 HB6
      generalize w6.heap.size = G at *
      go_upto_region 22 with (first
        | (refine wpList_load_row rfl 96 (.tmp 14) rfl G rfl _ emptyCells _ _ HG7.out Tryz.underlying96 rfl sizeE' ?_)
        | (go_at_call 102; (with_reducible refine (KE.out _).mono ?_); rintro e w8 ⟨pv, rfl, hpv, hb8⟩; have HPV := Lib.hid hpv; have HB8 := Lib.hid hb8; have HQ8 := Lib.hid (KQ.out w8 _ _ hpv (PagesP.below HV.out (HV7.out.trans (hb8.mono HV7.out.size)))); clear hpv hb8)
        | (go_at_call 162; (with_reducible refine HQ8.out.mono ?_); rintro e w9 ⟨rfl, hb9⟩; have HB9 := Lib.hid hb9; clear hb9))
      have hb79 : Below w7.heap.size w7 w9 := HB8.out.trans (HB9.out.mono HB8.out.size)
      have H9 := H7.out.later hb79
      have hst9 : w9.heap[w.heap.size]? = some (.cells emptyCells 96 (0, 0)) := H9.1
      have hpl9 : w9.heap[w.heap.size + 1]? = some (.cells #[.int .i64 0, .int .i64 0] 58 (0, 0)) := H9.2.1
      have hA1 := HM.out
      have hA2 := HAH.out
      have hA3 := HHG.out
      refine Sh.region_eq' (ops := r22) (by kernel_rfl) ?_
      refine wp_region_each (T22L s b K) (fun L W => DB w.heap.size G H K s b w W ∧ (L 5 → W.heap[w.heap.size + 1]? = some (.cells #[.int .i64 s, .int .i64 b] 58 (0, 0)))) (by kernel_rfl) (by kernel_rfl)
        ⟨⟨hst9, ⟨_, _, hpl9⟩, blk_below HG7.out hb79.drew (lt_of_block HG7.out), blk_below HP7.out hb79.drew (lt_of_block HP7.out), blk_cell (blk_below HK7.out hb79.drew (lt_of_block HK7.out)) 0, (HV7.out.trans (hb79.mono HV7.out.size)).drew⟩, fun h => h.elim⟩
        (owes22 w.heap.size G H K s b w (Nat.le_refl _) (by omega) (by omega) (by omega) (by omega) (by omega) (by omega) _ rfl rfl rfl rfl rfl) ?_
      intro P a1 w10 hall hF ⟨hS, hS5⟩ hT
      have hn5 := hS5 (hall 5 (by rw [show r22.size = 8 from by kernel_rfl]; decide))
      obtain ⟨v4, q4, t4⟩ := hT 6 _ (Array.getElem?_eq_getElem (by rw [show r22.size = 8 from by kernel_rfl]; decide))
      obtain ⟨v5, q5, t5⟩ := hT 7 _ (Array.getElem?_eq_getElem (by rw [show r22.size = 8 from by kernel_rfl]; decide))
      have t4' : v4 = .int .i64 1 := t4
      have t5' : v5 = .int .i64 0 := t5
      subst t4' t5'
      have q4' : a1.eval (.tmp 4) = .int .i64 1 := eval_at q4
      have q5' : a1.eval (.tmp 5) = .int .i64 0 := eval_at q5
      have s2 := slot (k := 2) hF (by kernel_rfl) rfl
      have s3 := slot (k := 3) hF (by kernel_rfl) rfl
      have hd := hF.defers
      go_wp2_with (fail)
      refine bodyPost_ret (results_cells_four rfl _ w10 w.heap.size (w.heap.size + 1) _ _ _ _ _ _ _ _ s2 s3 hS.st hn5 Tryz.underlying96 rfl sizeE' Tryz.underlying58 rfl (by kernel_rfl)) hd ?_
      refine ⟨?_, hS.below⟩
      have q4'' : a1.tmps.getD 4 undef = .int .i64 1 := q4'
      have q5'' : a1.tmps.getD 5 undef = .int .i64 0 := q5'
      rw [q4'', q5'']
end Go.Proofs.YtjohhjdicbeojaaGreatDoor.Sn
namespace Go.Proofs.YtjohhjdicbeojaaGreatDoor.So
open Go.RowKit Go.Proofs.YtjohhjdicbeojaaGreatDoor.Ra Go.Proofs.YtjohhjdicbeojaaGreatDoor.Rc Go.Proofs.YtjohhjdicbeojaaGreatDoor.Re Go.Proofs.YtjohhjdicbeojaaGreatDoor.Rf Go.Proofs.YtjohhjdicbeojaaGreatDoor.Rg Go.Proofs.YtjohhjdicbeojaaGreatDoor.Rj Go.Proofs.YtjohhjdicbeojaaGreatDoor.Rl Go.Proofs.YtjohhjdicbeojaaGreatDoor.Rz Go.Proofs.YtjohhjdicbeojaaGreatDoor.Sf Go.Proofs.YtjohhjdicbeojaaGreatDoor.Sg Go.Proofs.YtjohhjdicbeojaaGreatDoor.Si
set_option maxRecDepth 8000
theorem sec_new {w w' : World} {l : List UInt8} {v : Value} (h : NewBytes w l v w') (hl : l.length = 64) : SecB 0 l v w' := by
  have hb : BytesIn 0 w' v l := h.bytes
  rcases h.row.2 with ⟨rfl, h0⟩ | ⟨g, cap, cur, rfl, hg, hh, hc, _, _, ht⟩
  · rw [hl] at h0; cases h0
  · rw [hl] at hc ht ⊢
    exact ⟨g, cur, ⟨cap, rfl, hc⟩, Nat.zero_le _, hh, by rw [hl]; simpa using ht, hl⟩
theorem secb_grown {w w' : World} {B n : Nat} {l : List UInt8} {u v : Value} {xs : List Value} (h : SecB 0 l u w) (hr : w.ownsRow B 22 1 v n xs) (hg : w.grownBy w' v.ownBlock) : SecB 0 l u w' := h.kept fun g _ cs hgc => by
  refine (hg.block g (lt_of_block hgc) (fun e => ?_)).trans hgc
  rcases hr.2 with ⟨rfl, _⟩ | ⟨g2, cap2, cur, rfl, _, hh, _⟩
  · cases e
  · obtain rfl : g = g2 := Option.some.inj e
    rw [hgc] at hh
    injection hh with hh
    injection hh with _ hh _
    exact absurd hh (by decide)
theorem pages_of_row {w : World} {B g cap : Nat} {l0 l1 : List UInt8} {u0 u1 : Value} (h : w.ownsRow B 22 1 (.slice (some ⟨g, 0, none⟩) 2 cap) 2 [u0, u1]) (h0 : SecB 0 l0 u0 w) (h1 : SecB 0 l1 u1 w) : PagesP l0 l1 (.slice (some ⟨g, 0, none⟩) 2 cap) w := by
  rcases h.2 with ⟨e, _⟩ | ⟨g2, cap2, cur, e, hge, hh, hc1, _, _, ht2⟩
  · cases e
  · injection e with e1' _ e3'
    injection e1' with e1'
    injection e1' with e1' _
    subst e1' e3'
    refine ⟨g, cap, cur, u0, u1, rfl, hc1, hh, ?_, ?_, h0, h1⟩
    · rw [← Array.getElem?_toList]
      have := congrArg (fun l => l[0]?) ht2
      simpa using this
    · rw [← Array.getElem?_toList]
      have := congrArg (fun l => l[1]?) ht2
      simpa using this
set_option maxHeartbeats 4000000 in
theorem pages_good {B : Nat} {w : World} {D S N : Nat} {lv : Value} {d : Dev} {s b : Int} (h : DevAt B w D S N lv d) (hd : d.off = false) (hn : 13 < d.n) (hz : Head s b (secL d.now 12)) :
    Calls Tryz.prog 104 #[.pointer (some ⟨D, 0, none⟩), .int .i64 12] w fun e w' => ∃ v, e = .returned (.tuple #[v, .int .i64 0]) ∧ PagesP (secL d.now 12) (secL d.now 13) v w' ∧ Below w.heap.size w w' := by
  have hg := get_c h hd 12 (by omega)
  rw [show ((12 : Nat) : Int) = 12 from rfl] at hg
  have KG := Lib.hid hg
  have KG2 := Lib.hid (fun (W : World) (hb : Below w.heap.size w W) => get_c (h.later hb) hd 13 hn)
  have KR := Lib.hid (fun (W : World) (u : Value) (hu : BytesIn 0 W u (secL d.now 12)) => count_good u s b _ W hu hz)
  have HL1 := Lib.hid (secL_len d.now d.n 12 h.lnow (by omega))
  have HL2 := Lib.hid (secL_len d.now d.n 13 h.lnow hn)
  rw [show ((13 : Nat) : Int) = 13 from rfl] at KG2
  clear hg h hd hz
  go_enter Tryz.func104, Tryz.ntmps104
  go_wp2_with (first
    | (go_at_call 82; (with_reducible refine KG.out.mono ?_); rintro e w1 ⟨v1, rfl, hn1⟩; have hr1 := hn1.row; rw [HL1.out] at hr1; obtain ⟨g1, c1, rfl, _, _⟩ := hr1.form (by decide); clear hr1; have HN1 := Lib.hid hn1; clear hn1)
    | (go_at_call 158; (with_reducible refine (KR.out _ _ HN1.out.bytes).mono ?_); rintro e w2 ⟨rfl, hb2⟩; have HB2 := Lib.hid (HN1.out.below.trans (hb2.mono HN1.out.below.size)); have HS2 := Lib.hid ((sec_new HN1.out HL1.out).below hb2); clear hb2)
    | (go_at_call 103; (with_reducible refine (area_1 _).mono ?_); rintro e w3 ⟨rfl, rfl⟩)
    | go_quiet (fail))
  obtain ⟨w3, hw3⟩ : ∃ W, W = w2.alloc (.cells #[.slice (some ⟨g1, 0, none⟩) 64 c1] 22) := ⟨_, rfl⟩
  have HB3 : Hid (Below w.heap.size w w3) := Lib.hid (by rw [hw3]; exact HB2.out.alloc HB2.out.size _)
  have OW3 : Hid (w3.ownsRow w2.heap.size 22 1 (.slice (some ⟨w2.heap.size, 0, none⟩) 1 1) 1 [.slice (some ⟨g1, 0, none⟩) 64 c1]) := Lib.hid (by rw [hw3]; exact ⟨rfl, .inr ⟨_, _, _, rfl, Nat.le_refl _, blk_new _ _ _, Nat.le_refl _, by decide, rfl, rfl⟩⟩)
  have HS3 : Hid (SecB 0 (secL d.now 12) (.slice (some ⟨g1, 0, none⟩) 64 c1) w3) := Lib.hid (by rw [hw3]; exact HS2.out.below ((Below.refl _ _).alloc (Nat.le_refl _) _))
  have HM3 : Hid (w2.heap.size ≤ w3.heap.size) := Lib.hid (by rw [hw3, sz_alloc]; omega)
  have HMW : Hid (w.heap.size ≤ w2.heap.size) := Lib.hid HB2.out.size
  rw [← hw3]
  clear hw3 HN1 HS2 HB2
  generalize w2.heap.size = M at *
  go_loopg [10, 40] (2) (fun gg s10 s40 wr => (gg = 2 ∧ s40 = .int .i64 0 ∧ s10 = .slice (some ⟨M, 0, none⟩) 1 1 ∧ wr = w3) ∨ (gg = 1 ∧ s40 = .int .i64 1 ∧ ∃ g c, s10 = .slice (some ⟨g, 0, none⟩) 2 c ∧ Hid (PagesP (secL d.now 12) (secL d.now 13) s10 wr ∧ Below w.heap.size w wr)))
  case atStart => exact .inl ⟨rfl, rfl, rfl, rfl⟩
  case round =>
    rcases hrel with ⟨rfl, rfl, rfl, rfl⟩ | ⟨rfl, rfl, g', c', rfl, HR⟩
    · have K2 := Lib.hid (KG2.out _ HB3.out)
      obtain ⟨i0, hi, hz0, hz1, hz2⟩ := info_parts info_bs
      have HI := Lib.hid hi
      have HZ0 := Lib.hid hz0
      have HZ1 := Lib.hid hz1
      have HZ2 := Lib.hid hz2
      clear hi hz0 hz1 hz2
      go_upto_region 14 with (go_at_call 82; (with_reducible refine K2.out.mono ?_); rintro e w4 ⟨v2, rfl, hn2⟩; have hr2 := hn2.row; rw [HL2.out] at hr2; obtain ⟨g2, c2, rfl, _, _⟩ := hr2.form (by decide); clear hr2; have HN2 := Lib.hid hn2; clear hn2)
      have OW5 : Hid ((w4.alloc (.cells #[.slice (some ⟨g2, 0, none⟩) 64 c2] 22)).ownsRow M 22 1 (.slice (some ⟨M, 0, none⟩) 1 1) 1 [.slice (some ⟨g1, 0, none⟩) 64 c1]) := Lib.hid (row_below (row_below OW3.out HN2.out.below) ((Below.refl _ _).alloc (Nat.le_refl _) _))
      have HNEWS : Hid (∀ j u, [Value.slice (some ⟨g2, 0, none⟩) 64 c2][j]? = some u → (w4.alloc (.cells #[.slice (some ⟨g2, 0, none⟩) 64 c2] 22)).cell? ((⟨w4.heap.size, 0, none⟩ : Addr).add j) = some u) := Lib.hid (World.news_of_block (blk_new _ _ _))
      have HBS : Hid (M ≤ (w4.alloc (.cells #[.slice (some ⟨g2, 0, none⟩) 64 c2] 22)).heap.size) := Lib.hid (by rw [sz_alloc]; have := HN2.out.below.size; have := HM3.out; omega)
      go_wp2_with (first | (at_builtin; go_loud (refine wpList_append_lies _ rfl _ _ 199 rfl M 22 i0 (.slice none 0 0) 1 24 Tryz.underlying199 HI.out HZ0.out HZ1.out HZ2.out rfl (by decide) _ 1 [.slice (some ⟨g1, 0, none⟩) 64 c1] rfl OW5.out ⟨w4.heap.size, 0, none⟩ 1 1 [.slice (some ⟨g2, 0, none⟩) 64 c2] rfl rfl HNEWS.out (by intro y hy; simp at hy; subst hy; rfl) (by decide) (by decide) (by decide) HBS.out _ rfl ?_)))
      intro g5 cap5 w5 hown hgrow _ _
      have hb45 : Below wr.heap.size wr (w4.alloc (.cells #[.slice (some ⟨g2, 0, none⟩) 64 c2] 22)) := HN2.out.below.trans (((Below.refl _ _).alloc (Nat.le_refl _) _).mono HN2.out.below.size)
      have hbw : Below w.heap.size w w5 := HB3.out.trans ⟨hgrow.os.trans hb45.os, hgrow.tape.trans hb45.tape, hgrow.output.trans hb45.output, Nat.le_trans hb45.size hgrow.size, fun k hk => (hgrow.block k (Nat.lt_of_lt_of_le (Nat.lt_of_lt_of_le hk HB3.out.size) hb45.size) (fun e => by have e2 : k = M := Option.some.inj e; have := HMW.out; omega)).trans (hb45.block k (Nat.lt_of_lt_of_le hk HB3.out.size))⟩
      have HR5 : Hid (PagesP (secL d.now 12) (secL d.now 13) (.slice (some ⟨g5, 0, none⟩) 2 cap5) w5 ∧ Below w.heap.size w w5) := Lib.hid ⟨pages_of_row hown (secb_grown (HS3.out.below hb45) OW5.out hgrow) (secb_grown ((sec_new HN2.out HL2.out).below ((Below.refl _ _).alloc (Nat.le_refl _) _)) OW5.out hgrow), hbw⟩
      clear hown hgrow hbw hb45
      go_wp2_with (fail)
      go_roundg (1)
      case measure => omega
      case rel => exact .inr ⟨rfl, by go_num, g5, cap5, rfl, HR5⟩
    · go_wp2_with (fail)
      refine bodyPost_ret (v := .tuple #[.slice (some ⟨g', 0, none⟩) 2 c', .int .i64 0]) (by simp [results, Tryz.results104, go_sem]) rfl ⟨_, rfl, HR.out.1, HR.out.2⟩
end Go.Proofs.YtjohhjdicbeojaaGreatDoor.So
namespace Go.Proofs.YtjohhjdicbeojaaGreatDoor.Sp
open Go.RowKit Go.Proofs.YtjohhjdicbeojaaGreatDoor.Ra Go.Proofs.YtjohhjdicbeojaaGreatDoor.Rc Go.Proofs.YtjohhjdicbeojaaGreatDoor.Rd Go.Proofs.YtjohhjdicbeojaaGreatDoor.Re Go.Proofs.YtjohhjdicbeojaaGreatDoor.Ri Go.Proofs.YtjohhjdicbeojaaGreatDoor.Rj Go.Proofs.YtjohhjdicbeojaaGreatDoor.Rl Go.Proofs.YtjohhjdicbeojaaGreatDoor.Rn Go.Proofs.YtjohhjdicbeojaaGreatDoor.Ro Go.Proofs.YtjohhjdicbeojaaGreatDoor.Rp Go.Proofs.YtjohhjdicbeojaaGreatDoor.Rq Go.Proofs.YtjohhjdicbeojaaGreatDoor.Rw Go.Proofs.YtjohhjdicbeojaaGreatDoor.Sd Go.Proofs.YtjohhjdicbeojaaGreatDoor.Se Go.Proofs.YtjohhjdicbeojaaGreatDoor.Sf Go.Proofs.YtjohhjdicbeojaaGreatDoor.Sg Go.Proofs.YtjohhjdicbeojaaGreatDoor.Sm
set_option maxRecDepth 8000
noncomputable def rL2 : Array Oper := funcOps Tryz.f58 2
def VL2 (x y : Value) : Nat → Value → Prop
  | 0, v => v = .agg emptyCells
  | 1, v => v = .agg #[x, y]
  | 4, v => v = .int .i64 0
  | 5, v => v = .int .i64 1
  | _, _ => True
def TL2 (x y : Value) (_ : Nat → Prop) (j : Nat) (v : Value) (_ : World) : Prop := VL2 x y j v
set_option maxHeartbeats 4000000 in
theorem owesL2 {Q : Exit → Act → World → Prop} (A : Nat) (x y : Value) (hx1 : x.oneCell' = true) (hy1 : y.oneCell' = true) (w0 : World) (hA : w0.heap.size ≤ A) (a0 : Act) (e2 : a0.tmps[2]? = some (.pointer (some ⟨A, 0, none⟩))) (e3 : a0.tmps[3]? = some (.pointer (some ⟨A + 1, 0, none⟩))) :
    ∀ (i : Nat) (o : Oper), rL2[i]? = some o → Owes Tryz.prog rL2 Q (TL2 x y) (fun _ w => AB A x y w0 w) a0 i o := by
  intro i o ho L a w P hsh hnl haf hF hS hT hK
  have hi : i < 6 := by
    have h1 := (Array.getElem?_eq_some_iff.1 ho).1
    rwa [show rL2.size = 6 from by kernel_rfl] at h1
  have plain : ∀ v, TL2 x y (fun k => L k ∨ k = i) i v w → P (a.put o.dst v) w := fun v hv => hK v w hv hS fun j u _ _ h => h
  obtain rfl | rfl | rfl | rfl | rfl | rfl : i = 0 ∨ i = 1 ∨ i = 2 ∨ i = 3 ∨ i = 4 ∨ i = 5 := by omega
  · exact wp_load_row 96 (.tmp 2) (op_is ho (by kernel_rfl)) A (slot hF (by kernel_rfl) e2) _ emptyCells _ _ hS.st Tryz.underlying96 rfl sizeE' (plain _ rfl)
  · exact wp_load_row 58 (.tmp 3) (op_is ho (by kernel_rfl)) (A + 1) (slot hF (by kernel_rfl) e3) _ _ _ _ hS.pl Tryz.underlying58 rfl (by kernel_rfl) (plain _ rfl)
  · obtain ⟨v, q1, p1⟩ := has (a := a) hT (haf 0 (on_is ho (by kernel_rfl))) (d := 15) (by kernel_rfl)
    obtain rfl : v = .agg emptyCells := p1
    exact wp_store_mid 96 (.tmp 2) (.tmp 15) (op_is ho (by kernel_rfl)) A 0 emptyCells (slot hF (by kernel_rfl) e2) q1 (thereE' hS.st) sizeE' (by kernel_rfl) (hK _ _ trivial (hS.setSt hA) fun j u _ _ h => h)
  · obtain ⟨v, q1, p1⟩ := has (a := a) hT (haf 1 (on_is ho (by kernel_rfl))) (d := 16) (by kernel_rfl)
    obtain rfl : v = .agg #[x, y] := p1
    exact wp_store_mid 58 (.tmp 3) (.tmp 16) (op_is ho (by kernel_rfl)) (A + 1) 0 #[x, y] (slot hF (by kernel_rfl) e3) q1 (put_plat hS.pl x y).2 (by kernel_rfl) (by simp [hx1, hy1]) (hK _ _ trivial (hS.setPl hA x y) fun j u _ _ h => h)
  · exact wp_assign (x := .const (.int .i64 0)) (op_is ho (by kernel_rfl)) (plain _ rfl)
  · exact wp_assign (x := .const (.int .i64 1)) (op_is ho (by kernel_rfl)) (plain _ rfl)
noncomputable def rL11 : Array Oper := funcOps Tryz.f58 11
def VL11 (u z m : Value) : Nat → Value → Prop
  | 0, v => v = .agg emptyCells
  | 1, v => v = .agg #[u, z]
  | 2, v => v = m
  | 5, v => v = m
  | _, _ => True
def TL11 (u z m : Value) (_ : Nat → Prop) (j : Nat) (v : Value) (_ : World) : Prop := VL11 u z m j v
set_option maxHeartbeats 4000000 in
theorem owesL11 {Q : Exit → Act → World → Prop} (A G H : Nat) (u z m : Value) (hu1 : u.oneCell' = true) (hz1 : z.oneCell' = true) (w0 : World) (hA : w0.heap.size ≤ A) (g1 : G ≠ A) (g2 : G ≠ A + 1) (g3 : H ≠ A) (g4 : H ≠ A + 1) (a0 : Act) (e9 : a0.tmps[9]? = some (.pointer (some ⟨G, 0, none⟩))) (e10 : a0.tmps[10]? = some (.pointer (some ⟨H, 0, none⟩))) (e11 : a0.tmps[11]? = some (m)) (e2 : a0.tmps[2]? = some (.pointer (some ⟨A, 0, none⟩))) (e3 : a0.tmps[3]? = some (.pointer (some ⟨A + 1, 0, none⟩))) :
    ∀ (i : Nat) (o : Oper), rL11[i]? = some o → Owes Tryz.prog rL11 Q (TL11 u z m) (fun L w => (∃ x y, AB A x y w0 w) ∧ (L 4 → AB A u z w0 w) ∧ w.heap[G]? = some (.cells emptyCells 96 (0, 0)) ∧ w.heap[H]? = some (.cells #[u, z] 58 (0, 0))) a0 i o := by
  intro i o ho L a w P hsh hnl haf hF hS hT hK
  have hi : i < 6 := by
    have h1 := (Array.getElem?_eq_some_iff.1 ho).1
    rwa [show rL11.size = 6 from by kernel_rfl] at h1
  obtain ⟨hx, hS5, hG, hH⟩ := hS
  have plain : ∀ v, i ≠ 4 → TL11 u z m (fun k => L k ∨ k = i) i v w → P (a.put o.dst v) w := fun v hne hv => hK v w hv ⟨hx, fun h => hS5 (h.resolve_right fun e => hne e.symm), hG, hH⟩ fun j u _ _ h => h
  obtain rfl | rfl | rfl | rfl | rfl | rfl : i = 0 ∨ i = 1 ∨ i = 2 ∨ i = 3 ∨ i = 4 ∨ i = 5 := by omega
  · exact wp_load_row 96 (.tmp 9) (op_is ho (by kernel_rfl)) G (slot hF (by kernel_rfl) e9) _ emptyCells _ _ hG Tryz.underlying96 rfl sizeE' (plain _ (by decide) rfl)
  · exact wp_load_row 58 (.tmp 10) (op_is ho (by kernel_rfl)) H (slot hF (by kernel_rfl) e10) _ _ _ _ hH Tryz.underlying58 rfl (by kernel_rfl) (plain _ (by decide) rfl)
  · exact wp_move (op_is ho (by kernel_rfl)) (plain _ (by decide) (slot hF (by kernel_rfl) e11))
  · obtain ⟨v, q1, p1⟩ := has (a := a) hT (haf 0 (on_is ho (by kernel_rfl))) (d := 46) (by kernel_rfl)
    obtain rfl : v = .agg emptyCells := p1
    obtain ⟨x, y, hS⟩ := hx
    exact wp_store_mid 96 (.tmp 2) (.tmp 46) (op_is ho (by kernel_rfl)) A 0 emptyCells (slot hF (by kernel_rfl) e2) q1 (thereE' hS.st) sizeE' (by kernel_rfl) (hK _ _ trivial ⟨⟨x, y, hS.setSt hA⟩, fun h => (hS5 (h.resolve_right (by decide))).setSt hA, setOther hG g1 _, setOther hH g3 _⟩ fun j u _ _ h => h)
  · obtain ⟨v, q1, p1⟩ := has (a := a) hT (haf 1 (on_is ho (by kernel_rfl))) (d := 47) (by kernel_rfl)
    obtain rfl : v = .agg #[u, z] := p1
    obtain ⟨x, y, hS⟩ := hx
    exact wp_store_mid 58 (.tmp 3) (.tmp 47) (op_is ho (by kernel_rfl)) (A + 1) 0 #[u, z] (slot hF (by kernel_rfl) e3) q1 (put_plat hS.pl u z).2 (by kernel_rfl) (by simp [hu1, hz1]) (hK _ _ trivial ⟨⟨u, z, hS.setPl hA u z⟩, fun _ => hS.setPl hA u z, setOther hG g2 _, setOther hH g4 _⟩ fun j u _ _ h => h)
  · obtain ⟨v, q1, p1⟩ := has (a := a) hT (haf 2 (on_is ho (by kernel_rfl))) (d := 48) (by kernel_rfl)
    obtain rfl : v = m := p1
    exact wp_assign (x := .tmp 48) (op_is ho (by kernel_rfl)) (by rw [q1]; exact plain _ (by decide) rfl)
noncomputable def rL15 : Array Oper := funcOps Tryz.f58 15
def VL15 (x y m : Value) : Nat → Value → Prop
  | 0, v => v = .agg emptyCells
  | 1, v => v = .agg #[x, y]
  | 2, v => v = m
  | 5, v => v = m
  | 6, v => v = .int .i64 0
  | _, _ => True
def TL15 (x y m : Value) (_ : Nat → Prop) (j : Nat) (v : Value) (_ : World) : Prop := VL15 x y m j v
set_option maxHeartbeats 4000000 in
theorem owesL15 {Q : Exit → Act → World → Prop} (A : Nat) (x y m : Value) (hx1 : x.oneCell' = true) (hy1 : y.oneCell' = true) (w0 : World) (hA : w0.heap.size ≤ A) (a0 : Act) (e2 : a0.tmps[2]? = some (.pointer (some ⟨A, 0, none⟩))) (e3 : a0.tmps[3]? = some (.pointer (some ⟨A + 1, 0, none⟩))) (e4 : a0.tmps[4]? = some (m)) :
    ∀ (i : Nat) (o : Oper), rL15[i]? = some o → Owes Tryz.prog rL15 Q (TL15 x y m) (fun _ w => AB A x y w0 w) a0 i o := by
  intro i o ho L a w P hsh hnl haf hF hS hT hK
  have hi : i < 7 := by
    have h1 := (Array.getElem?_eq_some_iff.1 ho).1
    rwa [show rL15.size = 7 from by kernel_rfl] at h1
  have plain : ∀ v, TL15 x y m (fun k => L k ∨ k = i) i v w → P (a.put o.dst v) w := fun v hv => hK v w hv hS fun j u _ _ h => h
  obtain rfl | rfl | rfl | rfl | rfl | rfl | rfl : i = 0 ∨ i = 1 ∨ i = 2 ∨ i = 3 ∨ i = 4 ∨ i = 5 ∨ i = 6 := by omega
  · exact wp_load_row 96 (.tmp 2) (op_is ho (by kernel_rfl)) A (slot hF (by kernel_rfl) e2) _ emptyCells _ _ hS.st Tryz.underlying96 rfl sizeE' (plain _ rfl)
  · exact wp_load_row 58 (.tmp 3) (op_is ho (by kernel_rfl)) (A + 1) (slot hF (by kernel_rfl) e3) _ _ _ _ hS.pl Tryz.underlying58 rfl (by kernel_rfl) (plain _ rfl)
  · exact wp_move (op_is ho (by kernel_rfl)) (plain _ (slot_of (j := 5) hF (by kernel_rfl) (fun h => hnl (run_down hsh [2] 5 (by kernel_rfl) h)) e4))
  · obtain ⟨v, q1, p1⟩ := has (a := a) hT (haf 0 (on_is ho (by kernel_rfl))) (d := 54) (by kernel_rfl)
    obtain rfl : v = .agg emptyCells := p1
    exact wp_store_mid 96 (.tmp 2) (.tmp 54) (op_is ho (by kernel_rfl)) A 0 emptyCells (slot hF (by kernel_rfl) e2) q1 (thereE' hS.st) sizeE' (by kernel_rfl) (hK _ _ trivial (hS.setSt hA) fun j u _ _ h => h)
  · obtain ⟨v, q1, p1⟩ := has (a := a) hT (haf 1 (on_is ho (by kernel_rfl))) (d := 55) (by kernel_rfl)
    obtain rfl : v = .agg #[x, y] := p1
    exact wp_store_mid 58 (.tmp 3) (.tmp 55) (op_is ho (by kernel_rfl)) (A + 1) 0 #[x, y] (slot hF (by kernel_rfl) e3) q1 (put_plat hS.pl x y).2 (by kernel_rfl) (by simp [hx1, hy1]) (hK _ _ trivial (hS.setPl hA x y) fun j u _ _ h => h)
  · obtain ⟨v, q1, p1⟩ := has (a := a) hT (haf 2 (on_is ho (by kernel_rfl))) (d := 56) (by kernel_rfl)
    obtain rfl : v = m := p1
    exact wp_assign (x := .tmp 56) (op_is ho (by kernel_rfl)) (by rw [q1]; exact plain _ rfl)
  · exact wp_assign (x := .const (.int .i64 0)) (op_is ho (by kernel_rfl)) (plain _ rfl)
end Go.Proofs.YtjohhjdicbeojaaGreatDoor.Sp
